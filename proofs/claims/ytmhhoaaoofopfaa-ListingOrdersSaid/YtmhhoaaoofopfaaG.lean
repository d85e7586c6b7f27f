/- Plain words on worlds, blocks and rows. No program is named. -/
import Derived.Below
import Derived.WalkKit
import Derived.Deep.Draws
import Derived.Deep.AppendLies
import Derived.Laws.AppendOwn
import Derived.Laws.OwnMore
import Derived.OwnWalk
import Derived.Lib.Hide
namespace Go.Proofs.Ytmhhoaaoofopfaa
open Go.RowKit

theorem grown_of_below {w w1 : World} (h : Below w.heap.size w w1) (row : Option Nat) : w.grownBy w1 row := ⟨h.os, h.tape, h.output, h.size, fun i hi _ => h.block i hi⟩
theorem below_drewN' {B : Nat} {a w : World} (h : Below B a w) (n : Nat) : Below B a (w.drewN n) := ⟨h.os, h.tape, h.output, h.size, h.block⟩
theorem setCell_heap_at {w : World} {r o : Nat} {v : Value} {cur : Array Value} {E : Nat} {f : Nat × Nat} (h : w.heap[r]? = some (.cells cur E f)) :
    (w.setCell ⟨r, o, none⟩ v).heap[r]? = some (.cells (cur.setIfInBounds o v) E f) := by
  simp only [World.setCell, Array.getElem?_modify, h]
  simp
theorem setCells_heap_at (b : Nat) : ∀ (vs : List Value) (o : Nat) (w : World) (cur : Array Value) (E : Nat) (f : Nat × Nat), w.heap[b]? = some (.cells cur E f) → ∃ cur', (w.setCells b o vs).heap[b]? = some (.cells cur' E f) ∧ cur'.size = cur.size
  | [], _, w, cur, E, f, h => ⟨cur, h, rfl⟩
  | v :: r, o, w, cur, E, f, h => by
    obtain ⟨cur', h1, h2⟩ := setCells_heap_at b r (o + 1) (w.setCell ⟨b, o, none⟩ v) _ E f (setCell_heap_at h)
    exact ⟨cur', h1, by simpa using h2⟩
theorem setCells_other (b : Nat) : ∀ (vs : List Value) (o : Nat) (w : World) (k : Nat), k ≠ b → (w.setCells b o vs).heap[k]? = w.heap[k]?
  | [], _, _, _, _ => rfl
  | v :: r, o, w, k, h => by
    rw [World.setCells, setCells_other b r (o + 1) _ k h]
    exact Below.heap_setCell _ _ _ _ h
theorem setCells_grown (b : Nat) (vs : List Value) (o : Nat) (w : World) : w.grownBy (w.setCells b o vs) (some b) := by
  induction vs generalizing o w with
  | nil => exact ⟨rfl, rfl, rfl, Nat.le_refl _, fun _ _ _ => rfl⟩
  | cons v r ih =>
    have h := ih (o + 1) (w.setCell ⟨b, o, none⟩ v)
    refine ⟨h.os.trans (by simp [World.setCell]), h.tape.trans (by simp [World.setCell]), h.output.trans (by simp [World.setCell]), ?_, ?_⟩
    · have := h.size; simp [World.setCell] at this ⊢; exact this
    · intro k hk hne
      exact setCells_other b (v :: r) o w k (fun e => hne (by rw [e]))
theorem grown_trans {a b c : World} {row : Option Nat} (h : a.grownBy b row) (k : b.grownBy c row) : a.grownBy c row :=
  ⟨k.os.trans h.os, k.tape.trans h.tape, k.output.trans h.output, Nat.le_trans h.size k.size, fun i hi hne => (k.block i (Nat.lt_of_lt_of_le hi h.size) hne).trans (h.block i hi hne)⟩
theorem grown_below {a b c : World} {row : Option Nat} (h : a.grownBy b row) (k : Below b.heap.size b c) : a.grownBy c row := grown_trans h (grown_of_below k row)
theorem grown_refl (w : World) (row : Option Nat) : w.grownBy w row := ⟨rfl, rfl, rfl, Nat.le_refl _, fun _ _ _ => rfl⟩
theorem alloc_grown (w : World) (o : Obj) (row : Option Nat) : w.grownBy (w.alloc o) row := World.grownBy_alloc w o row

/-- Of what was there all blocks are as they were but those that S names. -/
structure Fr (S : Nat → Prop) (w w' : World) : Prop where
  os : w'.os = w.os
  tape : w'.tape = w.tape
  output : w'.output = w.output
  size : w.heap.size ≤ w'.heap.size
  block : ∀ k, k < w.heap.size → ¬ S k → w'.heap[k]? = w.heap[k]?
theorem Fr.refl (S : Nat → Prop) (w : World) : Fr S w w := ⟨rfl, rfl, rfl, Nat.le_refl _, fun _ _ _ => rfl⟩
theorem Fr.trans {S : Nat → Prop} {a b c : World} (h : Fr S a b) (k : Fr S b c) : Fr S a c :=
  ⟨k.os.trans h.os, k.tape.trans h.tape, k.output.trans h.output, Nat.le_trans h.size k.size, fun i hi hS => (k.block i (Nat.lt_of_lt_of_le hi h.size) hS).trans (h.block i hi hS)⟩
theorem Fr.of_below {S : Nat → Prop} {a b : World} (h : Below a.heap.size a b) : Fr S a b := ⟨h.os, h.tape, h.output, h.size, fun i hi _ => h.block i hi⟩
theorem Fr.of_grown {S : Nat → Prop} {a b : World} {ro : Option Nat} (h : a.grownBy b ro) (hS : ∀ r, ro = some r → S r) : Fr S a b :=
  ⟨h.os, h.tape, h.output, h.size, fun i hi hn => h.block i hi (fun e => hn (hS i e.symm))⟩
theorem Fr.setCell {S : Nat → Prop} (w : World) (p : Addr) (v : Value) (hS : S p.block) : Fr S w (w.setCell p v) :=
  ⟨by simp [World.setCell], by simp [World.setCell], by simp [World.setCell], by simp [World.setCell], fun k _ hn => Below.heap_setCell _ _ _ _ (fun e => hn (e ▸ hS))⟩
theorem Fr.alloc {S : Nat → Prop} (w : World) (o : Obj) : Fr S w (w.alloc o) := Fr.of_below (Below.alloc (Below.refl _ _) (Nat.le_refl _) _)
theorem Fr.drewN {S : Nat → Prop} (w : World) (n : Nat) : Fr S w (w.drewN n) := ⟨rfl, rfl, rfl, Nat.le_refl _, fun _ _ _ => rfl⟩
theorem Fr.mono {S S' : Nat → Prop} {a b : World} (h : Fr S a b) (hS : ∀ k, k < a.heap.size → S k → S' k) : Fr S' a b :=
  ⟨h.os, h.tape, h.output, h.size, fun i hi hn => h.block i hi (fun e => hn (hS i hi e))⟩
/-- What a wider world turned, of a narrower one: new blocks count for nothing. -/
theorem Fr.then_ {S S' : Nat → Prop} {a b c : World} (h : Fr S a b) (k : Fr S' b c) (hS : ∀ i, i < a.heap.size → S' i → S i) : Fr S a c :=
  ⟨k.os.trans h.os, k.tape.trans h.tape, k.output.trans h.output, Nat.le_trans h.size k.size, fun i hi hn => (k.block i (Nat.lt_of_lt_of_le hi h.size) (fun e => hn (hS i hi e))).trans (h.block i hi hn)⟩
theorem Fr.to_below {a b : World} {S : Nat → Prop} (h : Fr S a b) {B : Nat} (hB : B ≤ a.heap.size) (hS : ∀ k, k < B → ¬ S k) : Below B a b :=
  ⟨h.os, h.tape, h.output, h.size, fun i hi => h.block i (Nat.lt_of_lt_of_le hi hB) (hS i hi)⟩



theorem block_add (a : Addr) (n : Nat) : (a.add n).block = a.block := by unfold Addr.add; split <;> rfl
theorem add_of_add (a : Addr) (i j : Nat) : (a.add i).add j = a.add (i + j) := by
  unfold Addr.add
  by_cases hi : i = 0 <;> by_cases hj : j = 0 <;> simp [hi, hj, Nat.add_assoc]
theorem heap_new (w : World) (o : Obj) : (w.alloc o).heap[w.heap.size]? = some o := heap_alloc_new w o
theorem cell_new (w : World) (cs : Array Value) (E g i : Nat) (f : Nat × Nat) (hg : g = w.heap.size) : (w.alloc (.cells cs E f)).cell? ⟨g, i, none⟩ = cs[i]? := by
  subst hg
  have := heap_new w (.cells cs E f)
  simp only [World.cell?, this]
  simp
theorem cell_old (w : World) (o : Obj) (a : Addr) (h : a.block < w.heap.size) : (w.alloc o).cell? a = w.cell? a := (Below.alloc (Below.refl w.heap.size w) (Nat.le_refl _) o).cell h
theorem results_tmp4 {fn : Func} {t u v x : Tmp} (h : fn.results = #[.tmp t, .tmp u, .tmp v, .tmp x]) (tmps : Array Value) (P : Program) (w : World) :
    (results fn tmps).run P w = .ok (.tuple #[tmps.getD t undef, tmps.getD u undef, tmps.getD v undef, tmps.getD x undef]) w := by
  simp [results, h]
theorem ret_int {k : IntKind} {a b : Int} (h : a = b) : Ending.returned (.int k a) = .returned (.int k b) := by rw [h]
theorem ret_bool {a b : Bool} (h : a = b) : Ending.returned (.bool a) = .returned (.bool b) := by rw [h]
theorem bytes_inj {a b : ByteArray} (h : a.toList = b.toList) : a = b := by
  rw [ByteArray.toList_eq, ByteArray.toList_eq] at h
  exact ByteArray.ext (Array.toList_inj.1 h)

/-- Block r is a row of structs of sz cells each, room for cap of them; the first are these. -/
def Rw (w : World) (E r cap sz : Nat) (l : List (List Value)) : Prop :=
  ∃ cur, w.heap[r]? = some (.cells cur E (0, 0)) ∧ cur.size = cap * sz ∧ l.length ≤ cap ∧ ∀ i c, l[i]? = some c → c.length = sz ∧ ∀ d, d < sz → cur[i * sz + d]? = c[d]?
theorem Rw.lt {w : World} {E r cap sz : Nat} {l : List (List Value)} (h : Rw w E r cap sz l) : r < w.heap.size := by
  obtain ⟨cur, h, _⟩ := h
  exact (Array.getElem?_eq_some_iff.1 h).1
theorem Rw.same {w w' : World} {E r cap sz : Nat} {l : List (List Value)} (h : Rw w E r cap sz l) (hb : w'.heap[r]? = w.heap[r]?) : Rw w' E r cap sz l := by
  obtain ⟨cur, h, rest⟩ := h
  exact ⟨cur, hb.trans h, rest⟩
theorem Rw.below {B : Nat} {w w' : World} {E r cap sz : Nat} {l : List (List Value)} (h : Rw w E r cap sz l) (hb : Below B w w') (hr : r < B) : Rw w' E r cap sz l := h.same (hb.block r hr)
theorem Rw.cell {w : World} {E r cap sz : Nat} {l : List (List Value)} (h : Rw w E r cap sz l) {i d : Nat} {c : List Value} {v : Value} (hi : l[i]? = some c) (hd : c[d]? = some v) : w.cell? ⟨r, i * sz + d, none⟩ = some v := by
  obtain ⟨cur, h1, _, _, h4⟩ := h
  obtain ⟨hl, hc⟩ := h4 i c hi
  have hdl : d < sz := by rw [← hl]; exact (List.getElem?_eq_some_iff.1 hd).1
  simp only [World.cell?, h1]
  simpa [hd] using hc d hdl
theorem Rw.frozen {w : World} {E r cap sz : Nat} {l : List (List Value)} (h : Rw w E r cap sz l) (o : Nat) : w.frozen? ⟨r, o, none⟩ = false := by
  obtain ⟨cur, h, _⟩ := h
  simp [World.frozen?, h]
theorem Rw.take {w : World} {E r cap sz : Nat} {l : List (List Value)} (h : Rw w E r cap sz l) (m : Nat) : Rw w E r cap sz (l.take m) := by
  obtain ⟨cur, h1, h2, h3, h4⟩ := h
  refine ⟨cur, h1, h2, by simp; omega, fun i c hi => h4 i c ?_⟩
  rw [List.getElem?_take] at hi
  split at hi
  · exact hi
  · cases hi
/-- Block b's cells from o on are written. -/
theorem setCells_get (b : Nat) : ∀ (vs : List Value) (o : Nat) (w : World) (cur : Array Value) (E : Nat) (f : Nat × Nat), w.heap[b]? = some (.cells cur E f) → o + vs.length ≤ cur.size →
    ∃ cur', (w.setCells b o vs).heap[b]? = some (.cells cur' E f) ∧ cur'.size = cur.size ∧ (∀ j, j < o ∨ o + vs.length ≤ j → cur'[j]? = cur[j]?) ∧ ∀ d, d < vs.length → cur'[o + d]? = vs[d]?
  | [], o, w, cur, E, f, h, _ => ⟨cur, h, rfl, fun _ _ => rfl, fun d hd => by simp at hd⟩
  | v :: r, o, w, cur, E, f, h, hb => by
    simp at hb
    obtain ⟨cur', h1, h2, h3, h4⟩ := setCells_get b r (o + 1) (w.setCell ⟨b, o, none⟩ v) _ E f (setCell_heap_at h) (by simp; omega)
    refine ⟨cur', h1, by simpa using h2, ?_, ?_⟩
    · intro j hj
      simp at hj
      rw [h3 j (by omega), Array.getElem?_setIfInBounds_ne (by omega)]
    · intro d hd
      cases d with
      | zero =>
        rw [h3 (o + 0) (by omega)]
        rw [Array.getElem?_setIfInBounds]
        rw [if_pos (by omega), if_pos (by omega)]
        rfl
      | succ d =>
        have := h4 d (by simpa using hd)
        rw [show o + (d + 1) = o + 1 + d by omega, this]
        simp
theorem Rw.put {w : World} {E r cap sz : Nat} {l : List (List Value)} (h : Rw w E r cap sz l) (i : Nat) (hi : i < l.length) (c : List Value) (hc : c.length = sz) : Rw (w.setCells r (i * sz) c) E r cap sz (l.set i c) := by
  obtain ⟨cur, h1, h2, h3, h4⟩ := h
  have hfit : i * sz + sz ≤ cap * sz := by
    have : (i + 1) * sz ≤ cap * sz := Nat.mul_le_mul_right _ (by omega)
    rw [Nat.add_mul] at this; omega
  obtain ⟨cur', k1, k2, k3, k4⟩ := setCells_get r c (i * sz) w cur E (0, 0) h1 (by omega)
  refine ⟨cur', k1, by omega, by simpa using h3, ?_⟩
  intro j q hj
  by_cases hij : i = j
  · subst hij
    rw [List.getElem?_set_self hi] at hj
    cases hj
    exact ⟨hc, fun d hd => k4 d (by omega)⟩
  · rw [List.getElem?_set_ne hij] at hj
    obtain ⟨m1, m2⟩ := h4 j q hj
    refine ⟨m1, fun d hd => ?_⟩
    rw [← m2 d hd]
    apply k3
    rcases Nat.lt_or_gt_of_ne hij with hlt | hgt
    · right
      have : (i + 1) * sz ≤ j * sz := Nat.mul_le_mul_right _ (by omega)
      rw [Nat.add_mul] at this; omega
    · left
      have : (j + 1) * sz ≤ i * sz := Nat.mul_le_mul_right _ (by omega)
      rw [Nat.add_mul] at this; omega
/-- .. all but an element's first cell. -/
theorem Rw.putTail {w : World} {E r cap sz : Nat} {l : List (List Value)} (h : Rw w E r cap sz l) (i : Nat) (a : Value) (rest vs : List Value) (hi : l[i]? = some (a :: rest)) (hc : vs.length + 1 = sz) : Rw (w.setCells r (i * sz + 1) vs) E r cap sz (l.set i (a :: vs)) := by
  obtain ⟨cur, h1, h2, h3, h4⟩ := h
  have hil := (List.getElem?_eq_some_iff.1 hi).1
  have hfit : i * sz + sz ≤ cap * sz := by
    have : (i + 1) * sz ≤ cap * sz := Nat.mul_le_mul_right _ (by omega)
    rw [Nat.add_mul] at this; omega
  obtain ⟨cur', k1, k2, k3, k4⟩ := setCells_get r vs (i * sz + 1) w cur E (0, 0) h1 (by omega)
  refine ⟨cur', k1, by omega, by simpa using h3, ?_⟩
  intro j q hj
  by_cases hij : i = j
  · subst hij
    rw [List.getElem?_set_self hil] at hj
    cases hj
    refine ⟨by simp; omega, fun d hd => ?_⟩
    cases d with
    | zero =>
      rw [k3 _ (by omega)]
      have := (h4 i _ hi).2 0 (by omega)
      simpa using this
    | succ d =>
      have := k4 d (by omega)
      rw [show i * sz + (d + 1) = i * sz + 1 + d by omega, this]
      simp
  · rw [List.getElem?_set_ne hij] at hj
    obtain ⟨m1, m2⟩ := h4 j q hj
    refine ⟨m1, fun d hd => ?_⟩
    rw [← m2 d hd]
    apply k3
    rcases Nat.lt_or_gt_of_ne hij with hlt | hgt
    · right
      have : (i + 1) * sz ≤ j * sz := Nat.mul_le_mul_right _ (by omega)
      rw [Nat.add_mul] at this; omega
    · left
      have : (j + 1) * sz ≤ i * sz := Nat.mul_le_mul_right _ (by omega)
      rw [Nat.add_mul] at this; omega
theorem flatten_get {sz : Nat} : ∀ (l : List (List Value)), (∀ c ∈ l, c.length = sz) → ∀ (i d : Nat) (c : List Value), l[i]? = some c → d < sz → l.flatten[i * sz + d]? = c[d]?
  | [], _, i, d, c, h, _ => by simp at h
  | a :: l, hl, i, d, c, h, hd => by
    have ha := hl a (by simp)
    cases i with
    | zero =>
      simp at h
      subst h
      simp only [List.flatten_cons, Nat.zero_mul, Nat.zero_add]
      rw [List.getElem?_append_left (by omega)]
    | succ i =>
      simp at h
      simp only [List.flatten_cons]
      rw [List.getElem?_append_right (by rw [ha, Nat.add_mul]; omega), show (i + 1) * sz + d - a.length = i * sz + d by rw [ha, Nat.add_mul]; omega]
      exact flatten_get l (fun c hc => hl c (by simp [hc])) i d c h hd
theorem flatten_length {sz : Nat} : ∀ (l : List (List Value)), (∀ c ∈ l, c.length = sz) → l.flatten.length = l.length * sz
  | [], _ => by simp
  | a :: l, hl => by
    have ha := hl a (by simp)
    have := flatten_length l (fun c hc => hl c (by simp [hc]))
    simp only [List.flatten_cons, List.length_append, List.length_cons, Nat.add_mul, this, ha]
    omega
/-- A row that the call has filled by append is such a row. -/
theorem Rw.of_own {w : World} {base E sz n : Nat} {v : Value} {l : List (List Value)} (h : w.ownsRow base E sz v n l.flatten) (hl : ∀ c ∈ l, c.length = sz) (hz : 0 < sz) :
    n = l.length ∧ ((v = .slice none 0 0 ∧ l = []) ∨ ∃ r cap, v = .slice (some ⟨r, 0, none⟩) n cap ∧ base ≤ r ∧ r < w.heap.size ∧ Rw w E r cap sz l) := by
  obtain ⟨hlen, h⟩ := h
  have hn : n = l.length := by
    rw [flatten_length l hl] at hlen
    exact (Nat.eq_of_mul_eq_mul_right hz hlen).symm
  refine ⟨hn, ?_⟩
  rcases h with ⟨rfl, h0⟩ | ⟨g, cap, cur, rfl, hb, hh, hnc, hcap, hsz, hcur⟩
  · left
    refine ⟨rfl, ?_⟩
    exact List.length_eq_zero_iff.1 (by omega)
  · right
    refine ⟨g, cap, rfl, hb, (Array.getElem?_eq_some_iff.1 hh).1, cur, hh, hsz, by omega, ?_⟩
    intro i c hi
    refine ⟨hl c (List.mem_of_getElem? hi), fun d hd => ?_⟩
    have hil := (List.getElem?_eq_some_iff.1 hi).1
    rw [← flatten_get l hl i d c hi hd, ← hcur, List.getElem?_take_of_lt, Array.getElem?_toList]
    have : (i + 1) * sz ≤ n * sz := Nat.mul_le_mul_right _ (by omega)
    rw [Nat.add_mul] at this; omega
def idxOf {α : Type} (p : α → Bool) : List α → Int
  | [] => -1
  | k :: l => if p k then 0 else (let r := idxOf p l; if r < 0 then -1 else r + 1)

theorem idxOf_none {α : Type} (p : α → Bool) : ∀ l : List α, (∀ (j : Nat) (q : α), l[j]? = some q → p q = false) → idxOf p l = -1 := by
  intro l
  induction l with
  | nil => intro _; rfl
  | cons a l ih =>
    intro h
    have h0 := h 0 a rfl
    have := ih (fun j q hj => h (j + 1) q (by simpa using hj))
    simp [idxOf, h0, this]
theorem idxOf_some {α : Type} (p : α → Bool) : ∀ (l : List α) (k : Nat) (q : α), l[k]? = some q → p q = true → (∀ j q, j < k → l[j]? = some q → p q = false) → idxOf p l = k := by
  intro l
  induction l with
  | nil => intro k q h; simp at h
  | cons a l ih =>
    intro k q hk hq h
    cases k with
    | zero => simp at hk; subst hk; simp [idxOf, hq]
    | succ k =>
      have h0 := h 0 a (by omega) rfl
      have := ih k q (by simpa using hk) hq (fun j q hj hq => h (j + 1) q (by omega) (by simpa using hq))
      simp only [idxOf, h0, this]
      simp
      omega
/-- Either nothing fits, or there is a first that does. -/
theorem idxOf_cases {α : Type} (p : α → Bool) (l : List α) : (idxOf p l = -1 ∧ ∀ q ∈ l, p q = false) ∨ ∃ m q, idxOf p l = (m : Nat) ∧ l[m]? = some q ∧ m < l.length ∧ p q = true ∧ ∀ q ∈ l.take m, p q = false := by
  induction l with
  | nil => exact .inl ⟨rfl, by simp⟩
  | cons a l ih =>
    by_cases ha : p a = true
    · exact .inr ⟨0, a, by simp [idxOf, ha], rfl, by simp, ha, by simp⟩
    · have ha : p a = false := by simpa using ha
      rcases ih with ⟨h1, h2⟩ | ⟨m, q, h1, h2, h3, h4, h5⟩
      · exact .inl ⟨by simp [idxOf, ha, h1], by simpa [ha] using h2⟩
      · refine .inr ⟨m + 1, q, ?_, by simpa using h2, by simp; omega, h4, by simpa [ha] using h5⟩
        simp only [idxOf, ha, h1]
        simp
        omega

abbrev keep {α : Type} (p : α → Bool) (l : List α) : List α := l.filter fun k => !p k


end Go.Proofs.Ytmhhoaaoofopfaa
