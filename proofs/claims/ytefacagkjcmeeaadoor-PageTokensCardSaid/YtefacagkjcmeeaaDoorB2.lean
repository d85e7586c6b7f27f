/- Plain words for a book: its things, what is over, what a clearing leaves. No program is named. -/
import Derived.Test.YtefacagkjcmeeaaDoorB1
namespace Go.Proofs.YtefacagkjcmeeaaDoor
open Go.RowKit

theorem below_drewN' {B : Nat} {a w : World} (h : Below B a w) (n : Nat) : Below B a (w.drewN n) := ⟨h.os, h.tape, h.output, h.size, h.block⟩

def overB (life now : Int) (k : Kp) : Bool := decide (IntKind.u64.wrap life ≤ IntKind.u64.wrap (IntKind.u64.wrap now - IntKind.u64.wrap k.born))
def tokB (tok : ByteArray) (k : Kp) : Bool := k.tok.toList == tok.toList

structure BK where
  most : Int
  life : Int
  now : Int
  l : List Kp
def BK.clear (b : BK) (now : Int) : BK := { b with now := max b.now now, l := keep (overB b.life (max b.now now)) b.l }

/-- Of what was there all blocks are as they were but those that S names. -/
structure Fr (S : Nat → Prop) (w w' : World) : Prop where
  os : w'.os = w.os
  tape : w'.tape = w.tape
  output : w'.output = w.output
  size : w.heap.size ≤ w'.heap.size
  block : ∀ k, k < w.heap.size → ¬ S k → w'.heap[k]? = w.heap[k]?
theorem Fr.refl (S : Nat → Prop) (w : World) : Fr S w w := ⟨rfl, rfl, rfl, Nat.le_refl _, fun _ _ _ => rfl⟩
theorem Fr.trans {S : Nat → Prop} {a b c : World} (h : Fr S a b) (k : Fr S b c) : Fr S a c :=
  ⟨k.os.trans h.os, k.tape.trans h.tape, k.output.trans h.output, Nat.le_trans h.size k.size, fun i hi hS => (k.block i (Nat.lt_of_lt_of_le hi h.size) hS).trans (h.block i hi hS)⟩
theorem Fr.of_below {S : Nat → Prop} {a b : World} (h : Below a.heap.size a b) : Fr S a b := ⟨h.os, h.tape, h.output, h.size, fun i hi _ => h.block i hi⟩
theorem Fr.of_grown {S : Nat → Prop} {a b : World} {ro : Option Nat} (h : a.grownBy b ro) (hS : ∀ r, ro = some r → S r) : Fr S a b :=
  ⟨h.os, h.tape, h.output, h.size, fun i hi hn => h.block i hi (fun e => hn (hS i e.symm))⟩
theorem Fr.setCell {S : Nat → Prop} (w : World) (p : Addr) (v : Value) (hS : S p.block) : Fr S w (w.setCell p v) :=
  ⟨by simp [World.setCell], by simp [World.setCell], by simp [World.setCell], by simp [World.setCell], fun k _ hn => Below.heap_setCell _ _ _ _ (fun e => hn (e ▸ hS))⟩
theorem Fr.alloc {S : Nat → Prop} (w : World) (o : Obj) : Fr S w (w.alloc o) := Fr.of_below (Below.alloc (Below.refl _ _) (Nat.le_refl _) _)
theorem Fr.drewN {S : Nat → Prop} (w : World) (n : Nat) : Fr S w (w.drewN n) := ⟨rfl, rfl, rfl, Nat.le_refl _, fun _ _ _ => rfl⟩
theorem Fr.mono {S S' : Nat → Prop} {a b : World} (h : Fr S a b) (hS : ∀ k, k < a.heap.size → S k → S' k) : Fr S' a b :=
  ⟨h.os, h.tape, h.output, h.size, fun i hi hn => h.block i hi (fun e => hn (hS i hi e))⟩
/-- What a wider world turned, of a narrower one: new blocks count for nothing. -/
theorem Fr.then_ {S S' : Nat → Prop} {a b c : World} (h : Fr S a b) (k : Fr S' b c) (hS : ∀ i, i < a.heap.size → S' i → S i) : Fr S a c :=
  ⟨k.os.trans h.os, k.tape.trans h.tape, k.output.trans h.output, Nat.le_trans h.size k.size, fun i hi hn => (k.block i (Nat.lt_of_lt_of_le hi h.size) (fun e => hn (hS i hi e))).trans (h.block i hi hn)⟩
theorem Fr.to_below {a b : World} {S : Nat → Prop} (h : Fr S a b) {B : Nat} (hB : B ≤ a.heap.size) (hS : ∀ k, k < B → ¬ S k) : Below B a b :=
  ⟨h.os, h.tape, h.output, h.size, fun i hi => h.block i (Nat.lt_of_lt_of_le hi hB) (hS i hi)⟩


theorem flat_cons (a : Kp) (l : List Kp) : flat (a :: l) = a.cells.toList ++ flat l := rfl
theorem flat_get : ∀ (l : List Kp) (i d : Nat), d < 5 → (flat l)[i * 5 + d]? = (l[i]?).bind fun k => k.cells.toList[d]?
  | [], i, d, _ => by simp [flat]
  | a :: l, 0, d, hd => by
    rw [flat_cons, List.getElem?_append_left (by simp; omega)]; simp
  | a :: l, i + 1, d, hd => by
    rw [flat_cons, List.getElem?_append_right (by simp; omega)]
    have := flat_get l i d hd
    simp only [List.getElem?_cons_succ]
    rw [← this]
    congr 1
    simp; omega
theorem rowAt_of_flat {w : World} {r : Nat} {l : List Kp} (h : ∀ j u, (flat l)[j]? = some u → w.cell? ⟨r, j, none⟩ = some u) : RowAt w r l := by
  intro i k hk
  have g := fun d hd => flat_get l i d hd
  refine ⟨h (i * 5) _ ?_, h (i * 5 + 1) _ ?_, h (i * 5 + 2) _ ?_, h (i * 5 + 3) _ ?_, h (i * 5 + 4) _ ?_⟩
  · have := g 0 (by omega); simpa [hk] using this
  · have := g 1 (by omega); simpa [hk] using this
  · have := g 2 (by omega); simpa [hk] using this
  · have := g 3 (by omega); simpa [hk] using this
  · have := g 4 (by omega); simpa [hk] using this
theorem flat_of_rowAt {w : World} {r : Nat} {l : List Kp} (h : RowAt w r l) : ∀ j u, (flat l)[j]? = some u → w.cell? ⟨r, j, none⟩ = some u := by
  intro j u hu
  have hj : j = j / 5 * 5 + j % 5 := by omega
  rw [hj] at hu ⊢
  have hd : j % 5 < 5 := Nat.mod_lt _ (by omega)
  rw [flat_get l _ _ hd] at hu
  cases hk : l[j / 5]? with
  | none => rw [hk] at hu; cases hu
  | some k =>
    rw [hk] at hu
    obtain ⟨c0, c1, c2, c3, c4⟩ := h _ k hk
    generalize j % 5 = d at hu hd ⊢
    match d, hd with
    | 0, _ => simp at hu; subst hu; simpa using c0
    | 1, _ => simp at hu; subst hu; exact c1
    | 2, _ => simp at hu; subst hu; exact c2
    | 3, _ => simp at hu; subst hu; exact c3
    | 4, _ => simp at hu; subst hu; exact c4
theorem flat_one (l : List Kp) : ∀ u ∈ flat l, u.oneCell' = true := by
  intro u hu
  simp only [flat, List.mem_flatMap] at hu
  obtain ⟨k, _, hk⟩ := hu
  simp at hk
  rcases hk with rfl | rfl | rfl | rfl | rfl <;> first | rfl | exact k.one

end Go.Proofs.YtefacagkjcmeeaaDoor
