/- Plain words for the rows of a book: what a row of things holds, and what a store, a filter, a clear makes of it. No program is named. -/
import Derived.Below
import Derived.WalkKit
import Derived.Deep.Draws
import Derived.Deep.AppendLies
import Derived.Laws.AppendOwn
import Derived.Laws.OwnMore
import Derived.OwnWalk
import Derived.Lib.Hide
namespace Go.Proofs.YtefacagkjcmeeaaDoor
open Go.RowKit

theorem grown_of_below {w w1 : World} (h : Below w.heap.size w w1) (row : Option Nat) : w.grownBy w1 row := ⟨h.os, h.tape, h.output, h.size, fun i hi _ => h.block i hi⟩

structure Kp where
  tok : ByteArray
  who : ByteArray
  what : ByteArray
  born : Int
  x : Value
  one : x.oneCell' = true

abbrev Kp.cells (k : Kp) : Array Value := #[.string k.tok, .string k.who, .string k.what, .int .i64 k.born, k.x]
def flat (l : List Kp) : List Value := l.flatMap fun k => k.cells.toList
theorem flat_length (l : List Kp) : (flat l).length = l.length * 5 := by
  induction l with
  | nil => rfl
  | cons a l ih => simp [flat] at ih ⊢; omega

def RowAt (w : World) (r : Nat) (l : List Kp) : Prop := ∀ i k, l[i]? = some k → w.cell? ⟨r, i*5, none⟩ = some (.string k.tok) ∧ w.cell? ⟨r, i*5+1, none⟩ = some (.string k.who) ∧ w.cell? ⟨r, i*5+2, none⟩ = some (.string k.what) ∧ w.cell? ⟨r, i*5+3, none⟩ = some (.int .i64 k.born) ∧ w.cell? ⟨r, i*5+4, none⟩ = some k.x

theorem RowAt.same {w w' : World} {r : Nat} {l : List Kp} (h : RowAt w r l) (hb : w'.heap[r]? = w.heap[r]?) : RowAt w' r l := by
  intro i k hk
  obtain ⟨h0, h1, h2, h3, h4⟩ := h i k hk
  have e : ∀ o, w'.cell? ⟨r, o, none⟩ = w.cell? ⟨r, o, none⟩ := fun o => World.cell?_of_block (a := ⟨r, o, none⟩) hb
  exact ⟨(e _).trans h0, (e _).trans h1, (e _).trans h2, (e _).trans h3, (e _).trans h4⟩
theorem RowAt.below {B : Nat} {w w' : World} {r : Nat} {l : List Kp} (h : RowAt w r l) (hb : Below B w w') (hr : r < B) : RowAt w' r l := h.same (hb.block r hr)

/-- A row of the book's own: block r, of type E, room for cap things. -/
def OwnRow (w : World) (E r cap : Nat) (l : List Kp) : Prop :=
  ∃ cur : Array Value, w.heap[r]? = some (.cells cur E (0, 0)) ∧ cur.size = cap * 5 ∧ l.length ≤ cap ∧ RowAt w r l
theorem OwnRow.lt {w : World} {E r cap : Nat} {l : List Kp} (h : OwnRow w E r cap l) : r < w.heap.size := by
  obtain ⟨cur, h, _⟩ := h
  exact (Array.getElem?_eq_some_iff.1 h).1
theorem OwnRow.same {w w' : World} {E r cap : Nat} {l : List Kp} (h : OwnRow w E r cap l) (hb : w'.heap[r]? = w.heap[r]?) : OwnRow w' E r cap l := by
  obtain ⟨cur, h1, h2, h3, h4⟩ := h
  exact ⟨cur, by rw [hb]; exact h1, h2, h3, h4.same hb⟩
theorem OwnRow.below {B : Nat} {w w' : World} {E r cap : Nat} {l : List Kp} (h : OwnRow w E r cap l) (hb : Below B w w') (hr : r < B) : OwnRow w' E r cap l := h.same (hb.block r hr)
theorem OwnRow.frozen {w : World} {E r cap : Nat} {l : List Kp} (h : OwnRow w E r cap l) (o : Nat) : w.frozen? ⟨r, o, none⟩ = false := by
  obtain ⟨cur, h1, _⟩ := h
  simp [World.frozen?, h1]
theorem OwnRow.isCell {w : World} {E r cap : Nat} {l : List Kp} (h : OwnRow w E r cap l) (o : Nat) (ho : o < cap * 5) : ∃ v, w.cell? ⟨r, o, none⟩ = some v := by
  obtain ⟨cur, h1, h2, _⟩ := h
  exact ⟨cur[o]'(by omega), by simp [World.cell?, h1]⟩

/-- A thing laid over place i. -/
def put5 (w : World) (r i : Nat) (k : Kp) : World :=
  ((((w.setCell ⟨r, i*5, none⟩ (.string k.tok)).setCell ⟨r, i*5+1, none⟩ (.string k.who)).setCell ⟨r, i*5+2, none⟩ (.string k.what)).setCell ⟨r, i*5+3, none⟩ (.int .i64 k.born)).setCell ⟨r, i*5+4, none⟩ k.x

theorem setCell_heap_at {w : World} {r o : Nat} {v : Value} {cur : Array Value} {E : Nat} {f : Nat × Nat} (h : w.heap[r]? = some (.cells cur E f)) :
    (w.setCell ⟨r, o, none⟩ v).heap[r]? = some (.cells (cur.setIfInBounds o v) E f) := by
  simp only [World.setCell, Array.getElem?_modify, h]
  simp

theorem put5_heap {w : World} {r i : Nat} {k : Kp} {cur : Array Value} {E : Nat} {f : Nat × Nat} (h : w.heap[r]? = some (.cells cur E f)) :
    (put5 w r i k).heap[r]? = some (.cells (((((cur.setIfInBounds (i*5) (.string k.tok)).setIfInBounds (i*5+1) (.string k.who)).setIfInBounds (i*5+2) (.string k.what)).setIfInBounds (i*5+3) (.int .i64 k.born)).setIfInBounds (i*5+4) k.x) E f) := by
  unfold put5
  exact setCell_heap_at (setCell_heap_at (setCell_heap_at (setCell_heap_at (setCell_heap_at h))))
theorem put5_other {w : World} {r i : Nat} {k : Kp} {b : Nat} (hb : b ≠ r) : (put5 w r i k).heap[b]? = w.heap[b]? := by
  unfold put5
  simp only [World.setCell, Array.getElem?_modify]
  simp [Ne.symm hb]
theorem put5_size {w : World} {r i : Nat} {k : Kp} : (put5 w r i k).heap.size = w.heap.size := by simp [put5, World.setCell]
theorem put5_grown {w : World} {r i : Nat} {k : Kp} : w.grownBy (put5 w r i k) (some r) :=
  ⟨by simp [put5, World.setCell], by simp [put5, World.setCell], by simp [put5, World.setCell], by rw [put5_size]; exact Nat.le_refl _, fun b _ hb => put5_other (fun e => hb (by rw [e]))⟩

theorem cell_other {w : World} {r a b : Nat} {v : Value} (h : a ≠ b) : (w.setCell ⟨r, a, none⟩ v).cell? ⟨r, b, none⟩ = w.cell? ⟨r, b, none⟩ :=
  World.cell?_setCell_other w _ _ v (by intro e; injection e; contradiction)
theorem cell_same {w : World} {r a : Nat} {v : Value} (h : (w.cell? ⟨r, a, none⟩).isSome = true) : (w.setCell ⟨r, a, none⟩ v).cell? ⟨r, a, none⟩ = some v :=
  World.cell?_setCell_same' w _ v h
theorem cell_isSome {w : World} {r a b : Nat} {v : Value} (h : (w.cell? ⟨r, b, none⟩).isSome = true) : ((w.setCell ⟨r, a, none⟩ v).cell? ⟨r, b, none⟩).isSome = true := by
  by_cases e : a = b
  · subst e; rw [cell_same h]; rfl
  · rw [cell_other e]; exact h
theorem put5_far {w : World} {r i o : Nat} {k : Kp} (h : o < i * 5 ∨ i * 5 + 4 < o) : (put5 w r i k).cell? ⟨r, o, none⟩ = w.cell? ⟨r, o, none⟩ := by
  unfold put5
  rw [cell_other (by omega), cell_other (by omega), cell_other (by omega), cell_other (by omega), cell_other (by omega)]
theorem put5_at {w : World} {r i : Nat} {k : Kp} (h : ∀ d, d < 5 → (w.cell? ⟨r, i * 5 + d, none⟩).isSome = true) :
    (put5 w r i k).cell? ⟨r, i*5, none⟩ = some (.string k.tok) ∧ (put5 w r i k).cell? ⟨r, i*5+1, none⟩ = some (.string k.who) ∧ (put5 w r i k).cell? ⟨r, i*5+2, none⟩ = some (.string k.what) ∧ (put5 w r i k).cell? ⟨r, i*5+3, none⟩ = some (.int .i64 k.born) ∧ (put5 w r i k).cell? ⟨r, i*5+4, none⟩ = some k.x := by
  have h0 := h 0 (by omega); have h1 := h 1 (by omega); have h2 := h 2 (by omega); have h3 := h 3 (by omega); have h4 := h 4 (by omega)
  simp only [Nat.add_zero] at h0
  unfold put5
  refine ⟨?_, ?_, ?_, ?_, ?_⟩
  · rw [cell_other (by omega), cell_other (by omega), cell_other (by omega), cell_other (by omega)]; exact cell_same h0
  · rw [cell_other (by omega), cell_other (by omega), cell_other (by omega)]; exact cell_same (cell_isSome h1)
  · rw [cell_other (by omega), cell_other (by omega)]; exact cell_same (cell_isSome (cell_isSome h2))
  · rw [cell_other (by omega)]; exact cell_same (cell_isSome (cell_isSome (cell_isSome h3)))
  · exact cell_same (cell_isSome (cell_isSome (cell_isSome (cell_isSome h4))))

theorem OwnRow.put {w : World} {E r cap : Nat} {l : List Kp} (h : OwnRow w E r cap l) (i : Nat) (hi : i < l.length) (k : Kp) : OwnRow (put5 w r i k) E r cap (l.set i k) := by
  have hcell : ∀ d, d < 5 → (w.cell? ⟨r, i * 5 + d, none⟩).isSome = true := fun d hd => by
    have hle : l.length ≤ cap := by obtain ⟨_, _, _, h3, _⟩ := h; exact h3
    obtain ⟨v, hv⟩ := h.isCell (i * 5 + d) (by omega)
    rw [hv]; rfl
  obtain ⟨cur, h1, h2, h3, h4⟩ := h
  have hh := put5_heap (i := i) (k := k) h1
  refine ⟨_, hh, by simpa using h2, by simpa using h3, ?_⟩
  intro j q hj
  by_cases hji : j = i
  · subst hji
    have : q = k := by
      rw [List.getElem?_set_self hi] at hj
      exact (Option.some.inj hj).symm
    subst this
    exact put5_at hcell
  · rw [List.getElem?_set_ne (Ne.symm hji)] at hj
    have hjl : j < l.length := (List.getElem?_eq_some_iff.1 hj).1
    obtain ⟨c0, c1, c2, c3, c4⟩ := h4 j q hj
    exact ⟨(put5_far (by omega)).trans c0, (put5_far (by omega)).trans c1, (put5_far (by omega)).trans c2, (put5_far (by omega)).trans c3, (put5_far (by omega)).trans c4⟩

/-- The first m things of a row. -/
theorem OwnRow.take {w : World} {E r cap : Nat} {l : List Kp} (h : OwnRow w E r cap l) (m : Nat) : OwnRow w E r cap (l.take m) := by
  obtain ⟨cur, h1, h2, h3, h4⟩ := h
  refine ⟨cur, h1, h2, by simp; omega, fun i k hk => h4 i k ?_⟩
  rw [List.getElem?_take] at hk
  split at hk
  · exact hk
  · cases hk

end Go.Proofs.YtefacagkjcmeeaaDoor
