/- Plain words for taking things out of a row: what a loop that keeps the others has laid behind some rounds. No program is named. -/
import Derived.Test.YtefacagkjcmeeaaDoorB0
import Derived.Lib.SliceRun
namespace Go.Proofs.YtefacagkjcmeeaaDoor
open Go.RowKit

def idxOf (p : Kp → Bool) : List Kp → Int
  | [] => -1
  | k :: l => if p k then 0 else (let r := idxOf p l; if r < 0 then -1 else r + 1)

theorem idxOf_none (p : Kp → Bool) : ∀ l : List Kp, (∀ (j : Nat) (q : Kp), l[j]? = some q → p q = false) → idxOf p l = -1 := by
  intro l
  induction l with
  | nil => intro _; rfl
  | cons a l ih =>
    intro h
    have h0 := h 0 a rfl
    have := ih (fun j q hj => h (j + 1) q (by simpa using hj))
    simp [idxOf, h0, this]
theorem idxOf_some (p : Kp → Bool) : ∀ (l : List Kp) (k : Nat) (q : Kp), l[k]? = some q → p q = true → (∀ j q, j < k → l[j]? = some q → p q = false) → idxOf p l = k := by
  intro l
  induction l with
  | nil => intro k q h; simp at h
  | cons a l ih =>
    intro k q hk hq h
    cases k with
    | zero => simp at hk; subst hk; simp [idxOf, hq]
    | succ k =>
      have h0 := h 0 a (by omega) rfl
      have := ih k q (by simpa using hk) hq (fun j q hj hq => h (j + 1) q (by omega) (by simpa using hq))
      simp only [idxOf, h0, this]
      simp
      omega
/-- Either nothing fits, or there is a first that does. -/
theorem idxOf_cases (p : Kp → Bool) (l : List Kp) : (idxOf p l = -1 ∧ ∀ q ∈ l, p q = false) ∨ ∃ m q, idxOf p l = (m : Nat) ∧ l[m]? = some q ∧ m < l.length ∧ p q = true ∧ ∀ q ∈ l.take m, p q = false := by
  induction l with
  | nil => exact .inl ⟨rfl, by simp⟩
  | cons a l ih =>
    by_cases ha : p a = true
    · exact .inr ⟨0, a, by simp [idxOf, ha], rfl, by simp, ha, by simp⟩
    · have ha : p a = false := by simpa using ha
      rcases ih with ⟨h1, h2⟩ | ⟨m, q, h1, h2, h3, h4, h5⟩
      · exact .inl ⟨by simp [idxOf, ha, h1], by simpa [ha] using h2⟩
      · refine .inr ⟨m + 1, q, ?_, by simpa using h2, by simp; omega, h4, by simpa [ha] using h5⟩
        simp only [idxOf, ha, h1]
        simp
        omega

abbrev keep (p : Kp → Bool) (l : List Kp) : List Kp := l.filter fun k => !p k

/-- Behind some rounds: place i is the next to be laid, j the next to be looked at. -/
structure DInv (p : Kp → Bool) (l L : List Kp) (i j : Nat) : Prop where
  len : L.length = l.length
  lt : i < j
  le : j ≤ l.length
  head : L.take i = keep p (l.take j)
  tail : L.drop j = l.drop j

theorem DInv.start {p : Kp → Bool} {l : List Kp} {m : Nat} {q : Kp} (h2 : l[m]? = some q) (h3 : m < l.length) (h4 : p q = true) (h5 : ∀ q ∈ l.take m, p q = false) : DInv p l l m (m + 1) := by
  refine ⟨rfl, by omega, by omega, ?_, rfl⟩
  rw [List.take_add_one, h2]
  simp only [keep, List.filter_append]
  rw [List.filter_eq_self.2 (fun a ha => by rw [h5 a ha]; rfl)]
  simp [h4]
theorem DInv.get {p : Kp → Bool} {l L : List Kp} {i j : Nat} (h : DInv p l L i j) : L[j]? = l[j]? := by
  have := congrArg (fun x => x[0]?) h.tail
  simpa using this
theorem DInv.drop {p : Kp → Bool} {l L : List Kp} {i j : Nat} {q : Kp} (h : DInv p l L i j) (hj : l[j]? = some q) (hp : p q = true) : DInv p l L i (j + 1) := by
  have hl : j < l.length := (List.getElem?_eq_some_iff.1 hj).1
  refine ⟨h.len, by have := h.lt; omega, hl, ?_, ?_⟩
  · rw [h.head, List.take_add_one, hj]; simp [keep, hp]
  · have := congrArg (List.drop 1) h.tail
    simpa using this
theorem DInv.keep_ {p : Kp → Bool} {l L : List Kp} {i j : Nat} {q : Kp} (h : DInv p l L i j) (hj : l[j]? = some q) (hp : p q = false) : DInv p l (L.set i q) (i + 1) (j + 1) := by
  have hl : j < l.length := (List.getElem?_eq_some_iff.1 hj).1
  have hlt := h.lt
  have hlen := h.len
  refine ⟨by simp [h.len], by omega, hl, ?_, ?_⟩
  · rw [List.take_add_one (l := l), hj]
    rw [List.take_add_one, List.getElem?_set_self (by omega)]
    rw [List.take_set_of_le (Nat.le_refl i), h.head]
    simp [keep, hp]
  · rw [List.drop_set_of_lt (by omega)]
    have := congrArg (List.drop 1) h.tail
    simpa using this
theorem DInv.done {p : Kp → Bool} {l L : List Kp} {i : Nat} (h : DInv p l L i l.length) : L.take i = keep p l ∧ (keep p l).length = i := by
  have hh := h.head
  rw [List.take_length] at hh
  refine ⟨hh, ?_⟩
  rw [← hh, List.length_take]
  have := h.lt; have := h.len
  omega

theorem run_clear_row {P : Program} (w : World) (t e ty : TypeId) (z : Value) (ht : P.underlying t = some (.slice e)) (hv : ∀ w, (zeroValue e).run P w = .ok z w) (h1 : ∀ v ∈ z.cells.toList, v.oneCell' = true) (hz : 0 < z.cells.size) (b o n c : Nat) (hn : 0 < n)
    (hc : ∀ j, j < n * z.cells.size → (w.cell? ⟨b, o + j, none⟩).isSome = true) (hf : ∀ j, j < n * z.cells.size → w.frozen? ⟨b, o + j, none⟩ = false) :
    (Builtin.clear_ #[t] ty #[.slice (some ⟨b, o, none⟩) n c]).run P w = .ok (.tuple #[]) (w.setCells b o (Builtin.zeroCells z.cells n).toList) := by
  have hlen : (Builtin.zeroCells z.cells n).toList.length = n * z.cells.size := by simp [Builtin.zeroCells]
  have hst := run_storeCells_cells (P := P) b o (Builtin.zeroCells z.cells n).toList 0 w (by rw [hlen]; simpa using hc) (by rw [hlen]; simpa using hf) (by
    intro v hv'
    simp only [Builtin.zeroCells, Array.toList_map, Array.toList_range, List.mem_map, List.mem_range] at hv'
    obtain ⟨i, hi, rfl⟩ := hv'
    have hlt : i % z.cells.size < z.cells.size := Nat.mod_lt _ hz
    rw [getElem!_pos z.cells (i % z.cells.size) hlt]
    exact h1 _ (by simp))
  simp only [Nat.add_zero] at hst
  obtain ⟨m, rfl⟩ : ∃ m, n = m + 1 := ⟨n - 1, by omega⟩
  simp [Builtin.clear_, run_underlying ht, hv, hst]

theorem setCells_heap_at (b : Nat) : ∀ (vs : List Value) (o : Nat) (w : World) (cur : Array Value) (E : Nat) (f : Nat × Nat), w.heap[b]? = some (.cells cur E f) → ∃ cur', (w.setCells b o vs).heap[b]? = some (.cells cur' E f) ∧ cur'.size = cur.size
  | [], _, w, cur, E, f, h => ⟨cur, h, rfl⟩
  | v :: r, o, w, cur, E, f, h => by
    obtain ⟨cur', h1, h2⟩ := setCells_heap_at b r (o + 1) (w.setCell ⟨b, o, none⟩ v) _ E f (setCell_heap_at h)
    exact ⟨cur', h1, by simpa using h2⟩
theorem setCells_other (b : Nat) : ∀ (vs : List Value) (o : Nat) (w : World) (k : Nat), k ≠ b → (w.setCells b o vs).heap[k]? = w.heap[k]?
  | [], _, _, _, _ => rfl
  | v :: r, o, w, k, h => by
    rw [World.setCells, setCells_other b r (o + 1) _ k h]
    exact Below.heap_setCell _ _ _ _ h
theorem setCells_grown (b : Nat) (vs : List Value) (o : Nat) (w : World) : w.grownBy (w.setCells b o vs) (some b) := by
  induction vs generalizing o w with
  | nil => exact ⟨rfl, rfl, rfl, Nat.le_refl _, fun _ _ _ => rfl⟩
  | cons v r ih =>
    have h := ih (o + 1) (w.setCell ⟨b, o, none⟩ v)
    refine ⟨h.os.trans (by simp [World.setCell]), h.tape.trans (by simp [World.setCell]), h.output.trans (by simp [World.setCell]), ?_, ?_⟩
    · have := h.size; simp [World.setCell] at this ⊢; exact this
    · intro k hk hne
      exact setCells_other b (v :: r) o w k (fun e => hne (by rw [e]))
theorem OwnRow.cleared {w : World} {E r cap : Nat} {L : List Kp} (h : OwnRow w E r cap L) (i : Nat) (vs : List Value) : OwnRow (w.setCells r (i * 5) vs) E r cap (L.take i) := by
  obtain ⟨cur, h1, h2, h3, h4⟩ := h
  obtain ⟨cur', h1', h2'⟩ := setCells_heap_at r vs (i * 5) w cur E (0, 0) h1
  refine ⟨cur', h1', by omega, by simp; omega, ?_⟩
  intro j q hj
  rw [List.getElem?_take] at hj
  split at hj
  · rename_i hji
    obtain ⟨c0, c1, c2, c3, c4⟩ := h4 j q hj
    have e : ∀ o, o < i * 5 → (w.setCells r (i * 5) vs).cell? ⟨r, o, none⟩ = w.cell? ⟨r, o, none⟩ := fun o ho => World.cell?_setCells_out r vs (i * 5) w _ (fun _ _ => .inl ho)
    exact ⟨(e _ (by omega)).trans c0, (e _ (by omega)).trans c1, (e _ (by omega)).trans c2, (e _ (by omega)).trans c3, (e _ (by omega)).trans c4⟩
  · cases hj
theorem grown_trans {a b c : World} {row : Option Nat} (h : a.grownBy b row) (k : b.grownBy c row) : a.grownBy c row :=
  ⟨k.os.trans h.os, k.tape.trans h.tape, k.output.trans h.output, Nat.le_trans h.size k.size, fun i hi hne => (k.block i (Nat.lt_of_lt_of_le hi h.size) hne).trans (h.block i hi hne)⟩
theorem grown_below {a b c : World} {row : Option Nat} (h : a.grownBy b row) (k : Below b.heap.size b c) : a.grownBy c row := grown_trans h (grown_of_below k row)
theorem grown_refl (w : World) (row : Option Nat) : w.grownBy w row := ⟨rfl, rfl, rfl, Nat.le_refl _, fun _ _ _ => rfl⟩
theorem alloc_grown (w : World) (o : Obj) (row : Option Nat) : w.grownBy (w.alloc o) row := World.grownBy_alloc w o row

end Go.Proofs.YtefacagkjcmeeaaDoor
