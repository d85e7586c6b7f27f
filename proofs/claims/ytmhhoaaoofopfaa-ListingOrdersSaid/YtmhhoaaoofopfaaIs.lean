/- A row's cells where one element is put in: plain facts on lists and cells. No program is named. -/
import Derived.Test.YtmhhoaaoofopfaaG
set_option linter.unusedVariables false
namespace Go.Proofs.Ytmhhoaaoofopfaa
open Go.RowKit

theorem put_in {sz n i : Nat} {cur : Array Value} {flat xs : List Value} (hi : i ≤ n) (hfl : flat.length = n * sz) (hx : xs.length = sz) (hcs : (n + 1) * sz ≤ cur.size)
    (h1 : ∀ j, j < i * sz → cur[j]? = flat[j]?) (h2 : ∀ d, d < sz → cur[i * sz + d]? = xs[d]?) (h3 : ∀ d, d < (n - i) * sz → cur[(i + 1) * sz + d]? = flat[i * sz + d]?) :
    cur.toList.take ((n + 1) * sz) = flat.take (i * sz) ++ xs ++ flat.drop (i * sz) := by
  have hle : i * sz ≤ n * sz := Nat.mul_le_mul_right _ hi
  have hsub : (n - i) * sz = n * sz - i * sz := Nat.sub_mul _ _ _
  have ha : (n + 1) * sz = n * sz + sz := by rw [Nat.add_mul, Nat.one_mul]
  have hb : (i + 1) * sz = i * sz + sz := by rw [Nat.add_mul, Nat.one_mul]
  apply List.ext_getElem?
  intro j
  by_cases hj : j < (n + 1) * sz
  · rw [List.getElem?_take, if_pos hj, Array.getElem?_toList, List.append_assoc]
    have htl : (flat.take (i * sz)).length = i * sz := by rw [List.length_take]; omega
    by_cases hj1 : j < i * sz
    · rw [List.getElem?_append_left (by omega), List.getElem?_take, if_pos hj1]
      exact h1 j hj1
    · rw [List.getElem?_append_right (by omega), htl]
      by_cases hj2 : j < i * sz + sz
      · rw [List.getElem?_append_left (by omega)]
        have := h2 (j - i * sz) (by omega)
        rwa [show i * sz + (j - i * sz) = j by omega] at this
      · rw [List.getElem?_append_right (by omega), hx, List.getElem?_drop]
        have := h3 (j - i * sz - sz) (by omega)
        rw [show (i + 1) * sz + (j - i * sz - sz) = j by omega] at this
        exact this
  · rw [List.getElem?_eq_none (by rw [List.length_take]; omega), List.getElem?_eq_none]
    simp only [List.length_append, List.length_take, List.length_drop]
    omega
/-- Shifted in place: first what stands behind, then the new one. -/
theorem sets_shift {sz cap n i g E : Nat} {w : World} {cur : Array Value} {flat xs : List Value} (h : w.heap[g]? = some (.cells cur E (0, 0))) (hcs : cur.size = cap * sz) (hroom : n + 1 ≤ cap) (hi : i ≤ n) (hf : cur.toList.take (n * sz) = flat) (hfl : flat.length = n * sz) (hx : xs.length = sz) :
    ∃ cur', ((w.setCells g ((i + 1) * sz) (flat.drop (i * sz))).setCells g (i * sz) xs).heap[g]? = some (.cells cur' E (0, 0)) ∧ cur'.size = cap * sz ∧ cur'.toList.take ((n + 1) * sz) = flat.take (i * sz) ++ xs ++ flat.drop (i * sz) := by
  have hle : i * sz ≤ n * sz := Nat.mul_le_mul_right _ hi
  have hsub : (n - i) * sz = n * sz - i * sz := Nat.sub_mul _ _ _
  have ha : (n + 1) * sz = n * sz + sz := by rw [Nat.add_mul, Nat.one_mul]
  have hb : (i + 1) * sz = i * sz + sz := by rw [Nat.add_mul, Nat.one_mul]
  have hc : (n + 1) * sz ≤ cap * sz := Nat.mul_le_mul_right _ hroom
  have hdl : (flat.drop (i * sz)).length = n * sz - i * sz := by rw [List.length_drop, hfl]
  obtain ⟨c1, g1, z1, o1, i1⟩ := setCells_get g (flat.drop (i * sz)) ((i + 1) * sz) w cur E (0, 0) h (by rw [hdl]; omega)
  obtain ⟨c2, g2, z2, o2, i2⟩ := setCells_get g xs (i * sz) _ c1 E (0, 0) g1 (by rw [hx]; omega)
  refine ⟨c2, g2, by omega, put_in hi hfl hx (by omega) (fun j hj => ?_) (fun d hd => i2 d (by omega)) (fun d hd => ?_)⟩
  · rw [o2 j (.inl hj), o1 j (.inl (by omega)), ← hf, List.getElem?_take, if_pos (by omega), Array.getElem?_toList]
  · rw [o2 _ (.inr (by omega)), i1 d (by omega), List.getElem?_drop]
/-- In a new row: first the new one, then what stood behind. -/
theorem sets_new {sz cap n i g E : Nat} {w w' : World} {cur : Array Value} {flat xs : List Value} (h : w.heap[g]? = some (.cells cur E (0, 0))) (hcs : cur.size = cap * sz) (hroom : n + 1 ≤ cap) (hi : i ≤ n) (hf : ∀ j, j < i * sz → cur[j]? = flat[j]?) (hfl : flat.length = n * sz) (hx : xs.length = sz)
    (hw : w'.heap[g]? = (w.setCells g (i * sz) xs).heap[g]?) :
    ∃ cur', (w'.setCells g ((i + 1) * sz) (flat.drop (i * sz))).heap[g]? = some (.cells cur' E (0, 0)) ∧ cur'.size = cap * sz ∧ cur'.toList.take ((n + 1) * sz) = flat.take (i * sz) ++ xs ++ flat.drop (i * sz) := by
  have hle : i * sz ≤ n * sz := Nat.mul_le_mul_right _ hi
  have hsub : (n - i) * sz = n * sz - i * sz := Nat.sub_mul _ _ _
  have ha : (n + 1) * sz = n * sz + sz := by rw [Nat.add_mul, Nat.one_mul]
  have hb : (i + 1) * sz = i * sz + sz := by rw [Nat.add_mul, Nat.one_mul]
  have hc : (n + 1) * sz ≤ cap * sz := Nat.mul_le_mul_right _ hroom
  have hdl : (flat.drop (i * sz)).length = n * sz - i * sz := by rw [List.length_drop, hfl]
  obtain ⟨c1, g1, z1, o1, i1⟩ := setCells_get g xs (i * sz) w cur E (0, 0) h (by rw [hx]; omega)
  obtain ⟨c2, g2, z2, o2, i2⟩ := setCells_get g (flat.drop (i * sz)) ((i + 1) * sz) w' c1 E (0, 0) (hw.trans g1) (by rw [hdl]; omega)
  refine ⟨c2, g2, by omega, put_in hi hfl hx (by omega) (fun j hj => ?_) (fun d hd => ?_) (fun d hd => ?_)⟩
  · rw [o2 j (.inl (by omega)), o1 j (.inl hj), hf j hj]
  · rw [o2 _ (.inl (by omega)), i1 d (by omega)]
  · rw [i2 d (by omega), List.getElem?_drop]
end Go.Proofs.Ytmhhoaaoofopfaa
