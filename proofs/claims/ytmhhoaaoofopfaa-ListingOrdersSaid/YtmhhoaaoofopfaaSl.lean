/- Slices and their rows. No program is named. -/
import Derived.Test.YtmhhoaaoofopfaaG
namespace Go.Proofs.Ytmhhoaaoofopfaa
open Go.RowKit

/-- A slice's three words. -/
structure Sl where
  a : Option Addr
  n : Nat
  c : Nat
abbrev Sl.val (s : Sl) : Value := .slice s.a s.n s.c
/-- A slice's row: nothing, or the first cells of a block of which P holds. -/
def RowOf (w : World) (P : Nat → Prop) (E sz : Nat) (s : Sl) (l : List (List Value)) : Prop :=
  s.n = l.length ∧ l.length ≤ 1000000 ∧ ((s = ⟨none, 0, 0⟩ ∧ l = []) ∨ ∃ r, s.a = some ⟨r, 0, none⟩ ∧ s.n ≤ s.c ∧ P r ∧ r < w.heap.size ∧ Rw w E r s.c sz l)
theorem RowOf.same {w w' : World} {P : Nat → Prop} {E sz : Nat} {s : Sl} {l : List (List Value)} (h : RowOf w P E sz s l) (hs : w.heap.size ≤ w'.heap.size) (hb : ∀ g, g < w.heap.size → P g → w'.heap[g]? = w.heap[g]?) : RowOf w' P E sz s l := by
  obtain ⟨h1, h2, h⟩ := h
  refine ⟨h1, h2, ?_⟩
  rcases h with h | ⟨r, h3, h4, h5, h6, h7⟩
  · exact .inl h
  · exact .inr ⟨r, h3, h4, h5, by omega, h7.same (hb r h6 h5)⟩
theorem RowOf.mono {w : World} {P Q : Nat → Prop} {E sz : Nat} {s : Sl} {l : List (List Value)} (h : RowOf w P E sz s l) (hq : ∀ g, g < w.heap.size → P g → Q g) : RowOf w Q E sz s l := by
  obtain ⟨h1, h2, h⟩ := h
  refine ⟨h1, h2, ?_⟩
  rcases h with h | ⟨r, h3, h4, h5, h6, h7⟩
  · exact .inl h
  · exact .inr ⟨r, h3, h4, hq r h6 h5, h6, h7⟩
theorem RowOf.of_own {w : World} {base E sz n : Nat} {v : Value} {l : List (List Value)} (h : w.ownsRow base E sz v n l.flatten) (hl : ∀ c ∈ l, c.length = sz) (hz : 0 < sz) (hm : l.length ≤ 1000000) :
    ∃ s : Sl, v = s.val ∧ RowOf w (fun g => base ≤ g) E sz s l := by
  obtain ⟨hn, h⟩ := Rw.of_own h hl hz
  rcases h with ⟨rfl, rfl⟩ | ⟨r, cap, rfl, hb, hr, hrw⟩
  · exact ⟨⟨none, 0, 0⟩, by first | (simp [Sl.val]; done) | (simp [Sl.val]; simpa using hn), rfl, by simp, .inl ⟨rfl, rfl⟩⟩
  · exact ⟨⟨some ⟨r, 0, none⟩, n, cap⟩, rfl, hn, hm, .inr ⟨r, rfl, by show n ≤ cap; rw [hn]; exact hrw.choose_spec.2.2.1, hb, hr, hrw⟩⟩
theorem RowOf.at {w : World} {P : Nat → Prop} {E sz : Nat} {s : Sl} {l : List (List Value)} (h : RowOf w P E sz s l) {r : Nat} (ha : s.a = some ⟨r, 0, none⟩) : P r ∧ r < w.heap.size ∧ Rw w E r s.c sz l := by
  obtain ⟨_, _, ⟨rfl, _⟩ | ⟨r', h1, _, h3, h4, h5⟩⟩ := h
  · cases ha
  · rw [h1] at ha
    injection ha with ha
    injection ha with ha
    subst ha
    exact ⟨h3, h4, h5⟩
theorem RowOf.kept {w w' : World} {P : Nat → Prop} {E sz : Nat} {s : Sl} {l : List (List Value)} (h : RowOf w P E sz s l) (hs : w.heap.size ≤ w'.heap.size) (hb : ∀ g, g < w.heap.size → s.a = some ⟨g, 0, none⟩ → w'.heap[g]? = w.heap[g]?) : RowOf w' P E sz s l := by
  obtain ⟨h1, h2, h⟩ := h
  refine ⟨h1, h2, ?_⟩
  rcases h with h | ⟨r, h3, h4, h5, h6, h7⟩
  · exact .inl h
  · exact .inr ⟨r, h3, h4, h5, by omega, h7.same (hb r h6 h3)⟩
theorem RowOf.both {w : World} {P : Nat → Prop} {E sz : Nat} {s : Sl} {l : List (List Value)} (h : RowOf w P E sz s l) {Q : Nat → Prop} (hq : ∀ r, s.a = some ⟨r, 0, none⟩ → P r → Q r) : RowOf w Q E sz s l := by
  obtain ⟨h1, h2, h⟩ := h
  refine ⟨h1, h2, ?_⟩
  rcases h with h | ⟨r, h3, h4, h5, h6, h7⟩
  · exact .inl h
  · exact .inr ⟨r, h3, h4, hq r h3 h5, h6, h7⟩
end Go.Proofs.Ytmhhoaaoofopfaa
