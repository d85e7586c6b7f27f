/- Plain words on worlds, blocks and rows. No program is named. -/
import Derived.Below
import Derived.WalkKit
import Derived.Deep.Draws
import Derived.Deep.AppendLies
import Derived.Laws.AppendOwn
import Derived.Laws.OwnMore
import Derived.OwnWalk
import Derived.Lib.Hide
import Derived.Deep.QuietTactic
import Derived.BigQuiet
import Derived.KernelRfl
import Derived.Test.YtgnoaeldmpbjmaaGreatDoorProg
import Derived.LaidEql
import Derived.Stop.Asserts
import Derived.RowKitTokens
import Derived.Test.YtgnoaeldmpbjmaaGreatDoorShelf
import Derived.Tactics
import Derived.Outline
import Derived.LoopTactic
import Derived.Deep.LoopGhost
import Derived.Laws.Rows
import Derived.RegionTactic
namespace Go.Proofs.YtgnoaeldmpbjmaaGreatDoor
open Go.RowKit

theorem grown_of_below {w w1 : World} (h : Below w.heap.size w w1) (row : Option Nat) : w.grownBy w1 row := ⟨h.os, h.tape, h.output, h.size, fun i hi _ => h.block i hi⟩
theorem below_drewN' {B : Nat} {a w : World} (h : Below B a w) (n : Nat) : Below B a (w.drewN n) := ⟨h.os, h.tape, h.output, h.size, h.block⟩
theorem setCell_heap_at {w : World} {r o : Nat} {v : Value} {cur : Array Value} {E : Nat} {f : Nat × Nat} (h : w.heap[r]? = some (.cells cur E f)) :
    (w.setCell ⟨r, o, none⟩ v).heap[r]? = some (.cells (cur.setIfInBounds o v) E f) := by
  simp only [World.setCell, Array.getElem?_modify, h]
  simp
theorem setCells_heap_at (b : Nat) : ∀ (vs : List Value) (o : Nat) (w : World) (cur : Array Value) (E : Nat) (f : Nat × Nat), w.heap[b]? = some (.cells cur E f) → ∃ cur', (w.setCells b o vs).heap[b]? = some (.cells cur' E f) ∧ cur'.size = cur.size
  | [], _, w, cur, E, f, h => ⟨cur, h, rfl⟩
  | v :: r, o, w, cur, E, f, h => by
    obtain ⟨cur', h1, h2⟩ := setCells_heap_at b r (o + 1) (w.setCell ⟨b, o, none⟩ v) _ E f (setCell_heap_at h)
    exact ⟨cur', h1, by simpa using h2⟩
theorem setCells_other (b : Nat) : ∀ (vs : List Value) (o : Nat) (w : World) (k : Nat), k ≠ b → (w.setCells b o vs).heap[k]? = w.heap[k]?
  | [], _, _, _, _ => rfl
  | v :: r, o, w, k, h => by
    rw [World.setCells, setCells_other b r (o + 1) _ k h]
    exact Below.heap_setCell _ _ _ _ h
theorem setCells_grown (b : Nat) (vs : List Value) (o : Nat) (w : World) : w.grownBy (w.setCells b o vs) (some b) := by
  induction vs generalizing o w with
  | nil => exact ⟨rfl, rfl, rfl, Nat.le_refl _, fun _ _ _ => rfl⟩
  | cons v r ih =>
    have h := ih (o + 1) (w.setCell ⟨b, o, none⟩ v)
    refine ⟨h.os.trans (by simp [World.setCell]), h.tape.trans (by simp [World.setCell]), h.output.trans (by simp [World.setCell]), ?_, ?_⟩
    · have := h.size; simp [World.setCell] at this ⊢; exact this
    · intro k hk hne
      exact setCells_other b (v :: r) o w k (fun e => hne (by rw [e]))
theorem grown_trans {a b c : World} {row : Option Nat} (h : a.grownBy b row) (k : b.grownBy c row) : a.grownBy c row :=
  ⟨k.os.trans h.os, k.tape.trans h.tape, k.output.trans h.output, Nat.le_trans h.size k.size, fun i hi hne => (k.block i (Nat.lt_of_lt_of_le hi h.size) hne).trans (h.block i hi hne)⟩
theorem grown_below {a b c : World} {row : Option Nat} (h : a.grownBy b row) (k : Below b.heap.size b c) : a.grownBy c row := grown_trans h (grown_of_below k row)
theorem grown_refl (w : World) (row : Option Nat) : w.grownBy w row := ⟨rfl, rfl, rfl, Nat.le_refl _, fun _ _ _ => rfl⟩
theorem alloc_grown (w : World) (o : Obj) (row : Option Nat) : w.grownBy (w.alloc o) row := World.grownBy_alloc w o row

/-- Of what was there all blocks are as they were but those that S names. -/
structure Fr (S : Nat → Prop) (w w' : World) : Prop where
  os : w'.os = w.os
  tape : w'.tape = w.tape
  output : w'.output = w.output
  size : w.heap.size ≤ w'.heap.size
  block : ∀ k, k < w.heap.size → ¬ S k → w'.heap[k]? = w.heap[k]?
theorem Fr.refl (S : Nat → Prop) (w : World) : Fr S w w := ⟨rfl, rfl, rfl, Nat.le_refl _, fun _ _ _ => rfl⟩
theorem Fr.trans {S : Nat → Prop} {a b c : World} (h : Fr S a b) (k : Fr S b c) : Fr S a c :=
  ⟨k.os.trans h.os, k.tape.trans h.tape, k.output.trans h.output, Nat.le_trans h.size k.size, fun i hi hS => (k.block i (Nat.lt_of_lt_of_le hi h.size) hS).trans (h.block i hi hS)⟩
theorem Fr.of_below {S : Nat → Prop} {a b : World} (h : Below a.heap.size a b) : Fr S a b := ⟨h.os, h.tape, h.output, h.size, fun i hi _ => h.block i hi⟩
theorem Fr.of_grown {S : Nat → Prop} {a b : World} {ro : Option Nat} (h : a.grownBy b ro) (hS : ∀ r, ro = some r → S r) : Fr S a b :=
  ⟨h.os, h.tape, h.output, h.size, fun i hi hn => h.block i hi (fun e => hn (hS i e.symm))⟩
theorem Fr.setCell {S : Nat → Prop} (w : World) (p : Addr) (v : Value) (hS : S p.block) : Fr S w (w.setCell p v) :=
  ⟨by simp [World.setCell], by simp [World.setCell], by simp [World.setCell], by simp [World.setCell], fun k _ hn => Below.heap_setCell _ _ _ _ (fun e => hn (e ▸ hS))⟩
theorem Fr.alloc {S : Nat → Prop} (w : World) (o : Obj) : Fr S w (w.alloc o) := Fr.of_below (Below.alloc (Below.refl _ _) (Nat.le_refl _) _)
theorem Fr.drewN {S : Nat → Prop} (w : World) (n : Nat) : Fr S w (w.drewN n) := ⟨rfl, rfl, rfl, Nat.le_refl _, fun _ _ _ => rfl⟩
theorem Fr.mono {S S' : Nat → Prop} {a b : World} (h : Fr S a b) (hS : ∀ k, k < a.heap.size → S k → S' k) : Fr S' a b :=
  ⟨h.os, h.tape, h.output, h.size, fun i hi hn => h.block i hi (fun e => hn (hS i hi e))⟩
/-- What a wider world turned, of a narrower one: new blocks count for nothing. -/
theorem Fr.then_ {S S' : Nat → Prop} {a b c : World} (h : Fr S a b) (k : Fr S' b c) (hS : ∀ i, i < a.heap.size → S' i → S i) : Fr S a c :=
  ⟨k.os.trans h.os, k.tape.trans h.tape, k.output.trans h.output, Nat.le_trans h.size k.size, fun i hi hn => (k.block i (Nat.lt_of_lt_of_le hi h.size) (fun e => hn (hS i hi e))).trans (h.block i hi hn)⟩
theorem Fr.to_below {a b : World} {S : Nat → Prop} (h : Fr S a b) {B : Nat} (hB : B ≤ a.heap.size) (hS : ∀ k, k < B → ¬ S k) : Below B a b :=
  ⟨h.os, h.tape, h.output, h.size, fun i hi => h.block i (Nat.lt_of_lt_of_le hi hB) (hS i hi)⟩



theorem block_add (a : Addr) (n : Nat) : (a.add n).block = a.block := by unfold Addr.add; split <;> rfl
theorem add_of_add (a : Addr) (i j : Nat) : (a.add i).add j = a.add (i + j) := by
  unfold Addr.add
  by_cases hi : i = 0 <;> by_cases hj : j = 0 <;> simp [hi, hj, Nat.add_assoc]
theorem heap_new (w : World) (o : Obj) : (w.alloc o).heap[w.heap.size]? = some o := heap_alloc_new w o
theorem cell_new (w : World) (cs : Array Value) (E g i : Nat) (f : Nat × Nat) (hg : g = w.heap.size) : (w.alloc (.cells cs E f)).cell? ⟨g, i, none⟩ = cs[i]? := by
  subst hg
  have := heap_new w (.cells cs E f)
  simp only [World.cell?, this]
  simp
theorem cell_old (w : World) (o : Obj) (a : Addr) (h : a.block < w.heap.size) : (w.alloc o).cell? a = w.cell? a := (Below.alloc (Below.refl w.heap.size w) (Nat.le_refl _) o).cell h
theorem results_tmp4 {fn : Func} {t u v x : Tmp} (h : fn.results = #[.tmp t, .tmp u, .tmp v, .tmp x]) (tmps : Array Value) (P : Program) (w : World) :
    (results fn tmps).run P w = .ok (.tuple #[tmps.getD t undef, tmps.getD u undef, tmps.getD v undef, tmps.getD x undef]) w := by
  simp [results, h]
theorem ret_int {k : IntKind} {a b : Int} (h : a = b) : Ending.returned (.int k a) = .returned (.int k b) := by rw [h]
theorem ret_bool {a b : Bool} (h : a = b) : Ending.returned (.bool a) = .returned (.bool b) := by rw [h]
theorem bytes_inj {a b : ByteArray} (h : a.toList = b.toList) : a = b := by
  rw [ByteArray.toList_eq, ByteArray.toList_eq] at h
  exact ByteArray.ext (Array.toList_inj.1 h)

/-- Block r is a row of structs of sz cells each, room for cap of them; the first are these. -/
def Rw (w : World) (E r cap sz : Nat) (l : List (List Value)) : Prop :=
  ∃ cur, w.heap[r]? = some (.cells cur E (0, 0)) ∧ cur.size = cap * sz ∧ l.length ≤ cap ∧ ∀ i c, l[i]? = some c → c.length = sz ∧ ∀ d, d < sz → cur[i * sz + d]? = c[d]?
theorem Rw.lt {w : World} {E r cap sz : Nat} {l : List (List Value)} (h : Rw w E r cap sz l) : r < w.heap.size := by
  obtain ⟨cur, h, _⟩ := h
  exact (Array.getElem?_eq_some_iff.1 h).1
theorem Rw.same {w w' : World} {E r cap sz : Nat} {l : List (List Value)} (h : Rw w E r cap sz l) (hb : w'.heap[r]? = w.heap[r]?) : Rw w' E r cap sz l := by
  obtain ⟨cur, h, rest⟩ := h
  exact ⟨cur, hb.trans h, rest⟩
theorem Rw.below {B : Nat} {w w' : World} {E r cap sz : Nat} {l : List (List Value)} (h : Rw w E r cap sz l) (hb : Below B w w') (hr : r < B) : Rw w' E r cap sz l := h.same (hb.block r hr)
theorem Rw.cell {w : World} {E r cap sz : Nat} {l : List (List Value)} (h : Rw w E r cap sz l) {i d : Nat} {c : List Value} {v : Value} (hi : l[i]? = some c) (hd : c[d]? = some v) : w.cell? ⟨r, i * sz + d, none⟩ = some v := by
  obtain ⟨cur, h1, _, _, h4⟩ := h
  obtain ⟨hl, hc⟩ := h4 i c hi
  have hdl : d < sz := by rw [← hl]; exact (List.getElem?_eq_some_iff.1 hd).1
  simp only [World.cell?, h1]
  simpa [hd] using hc d hdl
theorem Rw.frozen {w : World} {E r cap sz : Nat} {l : List (List Value)} (h : Rw w E r cap sz l) (o : Nat) : w.frozen? ⟨r, o, none⟩ = false := by
  obtain ⟨cur, h, _⟩ := h
  simp [World.frozen?, h]
theorem Rw.take {w : World} {E r cap sz : Nat} {l : List (List Value)} (h : Rw w E r cap sz l) (m : Nat) : Rw w E r cap sz (l.take m) := by
  obtain ⟨cur, h1, h2, h3, h4⟩ := h
  refine ⟨cur, h1, h2, by simp; omega, fun i c hi => h4 i c ?_⟩
  rw [List.getElem?_take] at hi
  split at hi
  · exact hi
  · cases hi
/-- Block b's cells from o on are written. -/
theorem setCells_get (b : Nat) : ∀ (vs : List Value) (o : Nat) (w : World) (cur : Array Value) (E : Nat) (f : Nat × Nat), w.heap[b]? = some (.cells cur E f) → o + vs.length ≤ cur.size →
    ∃ cur', (w.setCells b o vs).heap[b]? = some (.cells cur' E f) ∧ cur'.size = cur.size ∧ (∀ j, j < o ∨ o + vs.length ≤ j → cur'[j]? = cur[j]?) ∧ ∀ d, d < vs.length → cur'[o + d]? = vs[d]?
  | [], o, w, cur, E, f, h, _ => ⟨cur, h, rfl, fun _ _ => rfl, fun d hd => by simp at hd⟩
  | v :: r, o, w, cur, E, f, h, hb => by
    simp at hb
    obtain ⟨cur', h1, h2, h3, h4⟩ := setCells_get b r (o + 1) (w.setCell ⟨b, o, none⟩ v) _ E f (setCell_heap_at h) (by simp; omega)
    refine ⟨cur', h1, by simpa using h2, ?_, ?_⟩
    · intro j hj
      simp at hj
      rw [h3 j (by omega), Array.getElem?_setIfInBounds_ne (by omega)]
    · intro d hd
      cases d with
      | zero =>
        rw [h3 (o + 0) (by omega)]
        rw [Array.getElem?_setIfInBounds]
        rw [if_pos (by omega), if_pos (by omega)]
        rfl
      | succ d =>
        have := h4 d (by simpa using hd)
        rw [show o + (d + 1) = o + 1 + d by omega, this]
        simp
theorem Rw.put {w : World} {E r cap sz : Nat} {l : List (List Value)} (h : Rw w E r cap sz l) (i : Nat) (hi : i < l.length) (c : List Value) (hc : c.length = sz) : Rw (w.setCells r (i * sz) c) E r cap sz (l.set i c) := by
  obtain ⟨cur, h1, h2, h3, h4⟩ := h
  have hfit : i * sz + sz ≤ cap * sz := by
    have : (i + 1) * sz ≤ cap * sz := Nat.mul_le_mul_right _ (by omega)
    rw [Nat.add_mul] at this; omega
  obtain ⟨cur', k1, k2, k3, k4⟩ := setCells_get r c (i * sz) w cur E (0, 0) h1 (by omega)
  refine ⟨cur', k1, by omega, by simpa using h3, ?_⟩
  intro j q hj
  by_cases hij : i = j
  · subst hij
    rw [List.getElem?_set_self hi] at hj
    cases hj
    exact ⟨hc, fun d hd => k4 d (by omega)⟩
  · rw [List.getElem?_set_ne hij] at hj
    obtain ⟨m1, m2⟩ := h4 j q hj
    refine ⟨m1, fun d hd => ?_⟩
    rw [← m2 d hd]
    apply k3
    rcases Nat.lt_or_gt_of_ne hij with hlt | hgt
    · right
      have : (i + 1) * sz ≤ j * sz := Nat.mul_le_mul_right _ (by omega)
      rw [Nat.add_mul] at this; omega
    · left
      have : (j + 1) * sz ≤ i * sz := Nat.mul_le_mul_right _ (by omega)
      rw [Nat.add_mul] at this; omega
/-- .. all but an element's first cell. -/
theorem Rw.putTail {w : World} {E r cap sz : Nat} {l : List (List Value)} (h : Rw w E r cap sz l) (i : Nat) (a : Value) (rest vs : List Value) (hi : l[i]? = some (a :: rest)) (hc : vs.length + 1 = sz) : Rw (w.setCells r (i * sz + 1) vs) E r cap sz (l.set i (a :: vs)) := by
  obtain ⟨cur, h1, h2, h3, h4⟩ := h
  have hil := (List.getElem?_eq_some_iff.1 hi).1
  have hfit : i * sz + sz ≤ cap * sz := by
    have : (i + 1) * sz ≤ cap * sz := Nat.mul_le_mul_right _ (by omega)
    rw [Nat.add_mul] at this; omega
  obtain ⟨cur', k1, k2, k3, k4⟩ := setCells_get r vs (i * sz + 1) w cur E (0, 0) h1 (by omega)
  refine ⟨cur', k1, by omega, by simpa using h3, ?_⟩
  intro j q hj
  by_cases hij : i = j
  · subst hij
    rw [List.getElem?_set_self hil] at hj
    cases hj
    refine ⟨by simp; omega, fun d hd => ?_⟩
    cases d with
    | zero =>
      rw [k3 _ (by omega)]
      have := (h4 i _ hi).2 0 (by omega)
      simpa using this
    | succ d =>
      have := k4 d (by omega)
      rw [show i * sz + (d + 1) = i * sz + 1 + d by omega, this]
      simp
  · rw [List.getElem?_set_ne hij] at hj
    obtain ⟨m1, m2⟩ := h4 j q hj
    refine ⟨m1, fun d hd => ?_⟩
    rw [← m2 d hd]
    apply k3
    rcases Nat.lt_or_gt_of_ne hij with hlt | hgt
    · right
      have : (i + 1) * sz ≤ j * sz := Nat.mul_le_mul_right _ (by omega)
      rw [Nat.add_mul] at this; omega
    · left
      have : (j + 1) * sz ≤ i * sz := Nat.mul_le_mul_right _ (by omega)
      rw [Nat.add_mul] at this; omega
theorem flatten_get {sz : Nat} : ∀ (l : List (List Value)), (∀ c ∈ l, c.length = sz) → ∀ (i d : Nat) (c : List Value), l[i]? = some c → d < sz → l.flatten[i * sz + d]? = c[d]?
  | [], _, i, d, c, h, _ => by simp at h
  | a :: l, hl, i, d, c, h, hd => by
    have ha := hl a (by simp)
    cases i with
    | zero =>
      simp at h
      subst h
      simp only [List.flatten_cons, Nat.zero_mul, Nat.zero_add]
      rw [List.getElem?_append_left (by omega)]
    | succ i =>
      simp at h
      simp only [List.flatten_cons]
      rw [List.getElem?_append_right (by rw [ha, Nat.add_mul]; omega), show (i + 1) * sz + d - a.length = i * sz + d by rw [ha, Nat.add_mul]; omega]
      exact flatten_get l (fun c hc => hl c (by simp [hc])) i d c h hd
theorem flatten_length {sz : Nat} : ∀ (l : List (List Value)), (∀ c ∈ l, c.length = sz) → l.flatten.length = l.length * sz
  | [], _ => by simp
  | a :: l, hl => by
    have ha := hl a (by simp)
    have := flatten_length l (fun c hc => hl c (by simp [hc]))
    simp only [List.flatten_cons, List.length_append, List.length_cons, Nat.add_mul, this, ha]
    omega
/-- A row that the call has filled by append is such a row. -/
theorem Rw.of_own {w : World} {base E sz n : Nat} {v : Value} {l : List (List Value)} (h : w.ownsRow base E sz v n l.flatten) (hl : ∀ c ∈ l, c.length = sz) (hz : 0 < sz) :
    n = l.length ∧ ((v = .slice none 0 0 ∧ l = []) ∨ ∃ r cap, v = .slice (some ⟨r, 0, none⟩) n cap ∧ base ≤ r ∧ r < w.heap.size ∧ Rw w E r cap sz l) := by
  obtain ⟨hlen, h⟩ := h
  have hn : n = l.length := by
    rw [flatten_length l hl] at hlen
    exact (Nat.eq_of_mul_eq_mul_right hz hlen).symm
  refine ⟨hn, ?_⟩
  rcases h with ⟨rfl, h0⟩ | ⟨g, cap, cur, rfl, hb, hh, hnc, hcap, hsz, hcur⟩
  · left
    refine ⟨rfl, ?_⟩
    exact List.length_eq_zero_iff.1 (by omega)
  · right
    refine ⟨g, cap, rfl, hb, (Array.getElem?_eq_some_iff.1 hh).1, cur, hh, hsz, by omega, ?_⟩
    intro i c hi
    refine ⟨hl c (List.mem_of_getElem? hi), fun d hd => ?_⟩
    have hil := (List.getElem?_eq_some_iff.1 hi).1
    rw [← flatten_get l hl i d c hi hd, ← hcur, List.getElem?_take_of_lt, Array.getElem?_toList]
    have : (i + 1) * sz ≤ n * sz := Nat.mul_le_mul_right _ (by omega)
    rw [Nat.add_mul] at this; omega
def idxOf {α : Type} (p : α → Bool) : List α → Int
  | [] => -1
  | k :: l => if p k then 0 else (let r := idxOf p l; if r < 0 then -1 else r + 1)

theorem idxOf_none {α : Type} (p : α → Bool) : ∀ l : List α, (∀ (j : Nat) (q : α), l[j]? = some q → p q = false) → idxOf p l = -1 := by
  intro l
  induction l with
  | nil => intro _; rfl
  | cons a l ih =>
    intro h
    have h0 := h 0 a rfl
    have := ih (fun j q hj => h (j + 1) q (by simpa using hj))
    simp [idxOf, h0, this]
theorem idxOf_some {α : Type} (p : α → Bool) : ∀ (l : List α) (k : Nat) (q : α), l[k]? = some q → p q = true → (∀ j q, j < k → l[j]? = some q → p q = false) → idxOf p l = k := by
  intro l
  induction l with
  | nil => intro k q h; simp at h
  | cons a l ih =>
    intro k q hk hq h
    cases k with
    | zero => simp at hk; subst hk; simp [idxOf, hq]
    | succ k =>
      have h0 := h 0 a (by omega) rfl
      have := ih k q (by simpa using hk) hq (fun j q hj hq => h (j + 1) q (by omega) (by simpa using hq))
      simp only [idxOf, h0, this]
      simp
      omega
/-- Either nothing fits, or there is a first that does. -/
theorem idxOf_cases {α : Type} (p : α → Bool) (l : List α) : (idxOf p l = -1 ∧ ∀ q ∈ l, p q = false) ∨ ∃ m q, idxOf p l = (m : Nat) ∧ l[m]? = some q ∧ m < l.length ∧ p q = true ∧ ∀ q ∈ l.take m, p q = false := by
  induction l with
  | nil => exact .inl ⟨rfl, by simp⟩
  | cons a l ih =>
    by_cases ha : p a = true
    · exact .inr ⟨0, a, by simp [idxOf, ha], rfl, by simp, ha, by simp⟩
    · have ha : p a = false := by simpa using ha
      rcases ih with ⟨h1, h2⟩ | ⟨m, q, h1, h2, h3, h4, h5⟩
      · exact .inl ⟨by simp [idxOf, ha, h1], by simpa [ha] using h2⟩
      · refine .inr ⟨m + 1, q, ?_, by simpa using h2, by simp; omega, h4, by simpa [ha] using h5⟩
        simp only [idxOf, ha, h1]
        simp
        omega

abbrev keep {α : Type} (p : α → Bool) (l : List α) : List α := l.filter fun k => !p k


end Go.Proofs.YtgnoaeldmpbjmaaGreatDoor
/- A region that only reads, whose callees leave what was there as it was. No program is named. -/
namespace Go.Proofs.YtgnoaeldmpbjmaaGreatDoor
open Go.RowKit

/-- A later world in which all that was there stands as it did. -/
structure BelW (w : World) where
  world : World
  h : Below w.heap.size w world
instance (w : World) : Inhabited (BelW w) := ⟨⟨w, Below.refl _ _⟩⟩
theorem wp_region_quiet_bel {P : Program} {id : Nat} {Q : Exit → Act → World → Prop} {a : Act} {w : World} {l : List Oper} (hm : P.follows .mixedOrders = true) (hB : Region.lexB .any l.toArray = true)
    (h : wpQuiet P l.toArray (fun w' => ∃ p : BelW w, w' = p.world) (fun a' => ∀ w', (∃ p : BelW w, w' = p.world) → Q .normal a' w') l a) : (Code.region id l.toArray true).wp P Q a w :=
  wp_region_quiet (C := fun w' => ∃ p : BelW w, w' = p.world) hm hB ⟨⟨w.drew, (Below.refl _ _).drew⟩, rfl⟩ (by simpa using h)
theorem Calls.bel_of {P : Program} {f : FuncId} {args : Array Value} {w : World} {p : BelW w} {v : Value} (h : Calls P f args p.world fun e w' => e = .returned v ∧ Below p.world.heap.size p.world w') :
    Calls P f args p.world fun e w'' => e = .returned v ∧ ∃ q : BelW w, w'' = q.world :=
  h.mono fun _ w' ⟨he, hb⟩ => ⟨he, ⟨w', p.h.trans (hb.mono p.h.size)⟩, rfl⟩
theorem cell_at {w : World} {g E j : Nat} {cs : Array Value} {v : Value} (h : w.heap[g]? = some (.cells cs E (0, 0))) (hj : cs[j]? = some v) : w.cell? ⟨g, j, none⟩ = some v := by
  simp [World.cell?, h, hj]
theorem frozen_at {w : World} {g E j : Nat} {cs : Array Value} (h : w.heap[g]? = some (.cells cs E (0, 0))) : w.frozen? ⟨g, j, none⟩ = false := by
  simp [World.frozen?, h]
theorem blk_lt {w : World} {g : Nat} {o : Obj} (h : w.heap[g]? = some o) : g < w.heap.size := (Array.getElem?_eq_some_iff.1 h).1
/-- The block that was just made. -/
theorem heap_new_at (w : World) (o : Obj) (g : Nat) (hg : g = w.heap.size) : (w.alloc o).heap[g]? = some o := by subst hg; exact heap_new _ _
theorem heap_old_at (w : World) (o : Obj) (g : Nat) (hg : g < w.heap.size) : (w.alloc o).heap[g]? = w.heap[g]? := Below.heap_alloc _ _ _ hg
end Go.Proofs.YtgnoaeldmpbjmaaGreatDoor
/- Errors: a code, behind the fields in which it is. -/
namespace Go.Proofs.YtgnoaeldmpbjmaaGreatDoor
open Go.RowKit

/-- An error's value in memory: a code, or a fault about another error; what was made lies in blocks of which P holds. -/
inductive Flt (w : World) (P : Nat → Prop) : Value → List ByteArray → Int → Prop where
  | code (c : Int) : Flt w P (.iface 67 (.int .i64 c)) [] c
  | fault (g : Nat) (f : ByteArray) (v : Value) (p : List ByteArray) (c : Int) (hg : w.heap[g]? = some (.cells #[.int .i64 (-1), .string f, v] 111 (0, 0))) (hP : P g) (h : Flt w P v p c) :
    Flt w P (.iface 108 (.pointer (some ⟨g, 0, none⟩))) (f :: p) c
theorem Flt.same {w w' : World} {P : Nat → Prop} {v : Value} {p : List ByteArray} {c : Int} (h : Flt w P v p c) (hb : ∀ g, g < w.heap.size → P g → w'.heap[g]? = w.heap[g]?) : Flt w' P v p c := by
  induction h with
  | code c => exact .code c
  | fault g f v p c hg hP h ih => exact .fault g f v p c ((hb g (blk_lt hg) hP).trans hg) hP ih
theorem Flt.mono {w : World} {P Q : Nat → Prop} {v : Value} {p : List ByteArray} {c : Int} (h : Flt w P v p c) (hq : ∀ g, g < w.heap.size → P g → Q g) : Flt w Q v p c := by
  induction h with
  | code c => exact .code c
  | fault g f v p c hg hP h ih => exact .fault g f v p c hg (hq g (blk_lt hg) hP) ih
/-- What an error is: nothing, or the fields and the code. -/
abbrev Er := Option (List ByteArray × Int)
def ErrV (w : World) (P : Nat → Prop) (v : Value) : Er → Prop
  | none => v = .nilIface
  | some (p, c) => Flt w P v p c
theorem ErrV.same {w w' : World} {P : Nat → Prop} {v : Value} {x : Er} (h : ErrV w P v x) (hb : ∀ g, g < w.heap.size → P g → w'.heap[g]? = w.heap[g]?) : ErrV w' P v x := by
  cases x with
  | none => exact h
  | some x => exact Flt.same h hb
theorem ErrV.mono {w : World} {P Q : Nat → Prop} {v : Value} {x : Er} (h : ErrV w P v x) (hq : ∀ g, g < w.heap.size → P g → Q g) : ErrV w Q v x := by
  cases x with
  | none => exact h
  | some x => exact Flt.mono h hq
theorem ErrV.code (w : World) (P : Nat → Prop) (c : Int) : ErrV w P (.iface 67 (.int .i64 c)) (some ([], c)) := Flt.code c
theorem ErrV.below {w w' : World} {P : Nat → Prop} {v : Value} {x : Er} (h : ErrV w P v x) (hb : Below w.heap.size w w') : ErrV w' P v x := h.same (fun g hg _ => hb.block g hg)
theorem ErrV.nil {w : World} {P : Nat → Prop} {v : Value} {x : Er} (h : ErrV w P v x) : (v = .nilIface ∧ x = none) ∨ (∃ t u, v = .iface t u) ∧ x ≠ none := by
  cases x with
  | none => exact .inl ⟨h, rfl⟩
  | some x =>
    obtain ⟨p, c⟩ := x
    refine .inr ⟨?_, by simp⟩
    have h' : Flt w P v p c := h
    cases h' with
    | code c => exact ⟨_, _, rfl⟩
    | fault g f v p c hg hP h => exact ⟨_, _, rfl⟩
end Go.Proofs.YtgnoaeldmpbjmaaGreatDoor
/- errors.As at a code and at a fault: what the model's entries for reflectlite come to at these types. -/
set_option linter.unusedVariables false
set_option linter.unusedSimpArgs false
namespace Go.Proofs.YtgnoaeldmpbjmaaGreatDoor
open Go.RowKit Go.Extern.Stop Go.Stop Go.Extern

theorem rlm (z : Sem Value) (f : TypeId → Addr → Nat → Nat → Sem Value) (v : Value) :
    ReflectliteValue.method z f #[v] = (do match ← ReflectliteValue.parts v with | none => z | some (t, a, fl) => f t a fl (fl % 32)) := rfl
theorem rls (v x : Value) : ReflectliteValue.set #[v, x] = (do
    let (some (dst, a, fl), some (src, b, _)) := (← ReflectliteValue.parts v, ← ReflectliteValue.parts x)
      | unsupported (.noEntry "extern/(internal/reflectlite.Value).Set.zeroValue")
    if fl / ReflectliteValue.flagAddr % 2 == 0 then unsupported (.noEntry "extern/(internal/reflectlite.Value).Set.unaddressable")
    let val ← loadVar src b
    if ← Rtype.directlyAssignable dst src then storeVar dst a val
    else if ← Rtype.implements dst src then
      if (← Rtype.kind src) == 20 then
        match val with
        | .nilIface => unsupported (.noEntry "extern/reflectlite: a nil value of one interface type handed on as a value of another")
        | _ => storeVar dst a val
      else storeVar dst a (.iface src val)
    else panicString ("reflectlite.Set: value of type " ++ (← Rtype.spelt src) ++ " is not assignable to type " ++ (← Rtype.spelt dst))
    pure (.tuple #[])) := rfl
abbrev mValueOf : Array Value → Sem Value := fun args => ReflectliteValue.unpack (args.getD 0 (.tuple #[]))
abbrev mType : Array Value → Sem Value := ReflectliteValue.methodAny (ReflectliteValue.valueError "reflectlite.Value.Type" 0) (fun t _ _ _ => ReflectliteType.toType t)
abbrev mIsNil : Array Value → Sem Value := ReflectliteValue.method (ReflectliteValue.valueError "reflectlite.Value.IsNil" 0) ReflectliteValue.isNil
abbrev mKind : Array Value → Sem Value := ReflectliteType.abiMethod fun t => do pure (.int .u8 (← Rtype.kind t))
abbrev mElem : Array Value → Sem Value := ReflectliteType.method ReflectliteType.elem
abbrev mImplements : Array Value → Sem Value := ReflectliteType.relation "Implements" ReflectliteType.implements_
abbrev mAssignableTo : Array Value → Sem Value := ReflectliteType.relation "AssignableTo" ReflectliteType.assignableTo
abbrev mElemV : Array Value → Sem Value := ReflectliteValue.method (ReflectliteValue.valueError "reflectlite.Value.Elem" 0) ReflectliteValue.elem
theorem methodKind (n : Nat) (h : Value) (w : World) : (Go.method (n + 1) 160 (.agg #[h]) "Kind").run Tryz.prog w = .ok (135, h) w := by kernel_rfl
theorem methodElem (n : Nat) (h : Value) (w : World) : (Go.method (n + 1) 160 (.agg #[h]) "Elem").run Tryz.prog w = .ok (152, .agg #[h]) w := by kernel_rfl
theorem methodImplements (n : Nat) (h : Value) (w : World) : (Go.method (n + 1) 160 (.agg #[h]) "Implements").run Tryz.prog w = .ok (153, .agg #[h]) w := by kernel_rfl
theorem methodAssignableTo (n : Nat) (h : Value) (w : World) : (Go.method (n + 1) 160 (.agg #[h]) "AssignableTo").run Tryz.prog w = .ok (150, .agg #[h]) w := by kernel_rfl

theorem valueOfPC (t : Addr) (w : World) : (mValueOf #[.iface 107 (.pointer (some t))]).run Tryz.prog w
    = .ok (.agg #[typeHandle Tryz.prog 107, .pointer (some ⟨w.heap.size, 0, none⟩), .int .u64 150]) (w.alloc (.cells #[.pointer (some t)] 107)) := by kernel_rfl
theorem typePC (a : Addr) (w : World) : (mType #[.agg #[typeHandle Tryz.prog 107, .pointer (some a), .int .u64 150]]).run Tryz.prog w
    = .ok (.iface 160 (.agg #[typeHandle Tryz.prog 107])) w := by kernel_rfl
theorem kindPC (w : World) : (mKind #[typeHandle Tryz.prog 107]).run Tryz.prog w = .ok (.int .u8 22) w := by kernel_rfl
theorem kindEC (w : World) : (mKind #[typeHandle Tryz.prog 67]).run Tryz.prog w = .ok (.int .u8 2) w := by kernel_rfl
theorem partsPC (a : Addr) (w : World) : (ReflectliteValue.parts (.agg #[typeHandle Tryz.prog 107, .pointer (some a), .int .u64 150])).run Tryz.prog w = .ok (some (107, a, 150)) w := by kernel_rfl
theorem isNilPC (a p : Addr) (W : World) (ha : W.cell? a = some (.pointer (some p))) :
    (mIsNil #[.agg #[typeHandle Tryz.prog 107, .pointer (some a), .int .u64 150]]).run Tryz.prog W = .ok (.bool false) W := by
  unfold mIsNil
  rw [rlm]
  simp only [Sem.run_bind, partsPC, Result.andThen]
  simp [ReflectliteValue.isNil, loadVar, isAgg, underlying, Tryz.underlying107, ha, Result.andThen]
theorem elemPC (w : World) : (mElem #[.agg #[typeHandle Tryz.prog 107]]).run Tryz.prog w = .ok (.iface 160 (.agg #[typeHandle Tryz.prog 67])) w := by kernel_rfl
theorem implementsEC (w : World) : (mImplements #[.agg #[typeHandle Tryz.prog 67], .iface 160 (.agg #[typeHandle Tryz.prog 29])]).run Tryz.prog w = .ok (.bool true) w := by kernel_rfl
theorem typeOfEC (v : Value) (w : World) : (ReflectliteType.typeOf #[.iface 67 v]).run Tryz.prog w = .ok (.iface 160 (.agg #[typeHandle Tryz.prog 67])) w := by kernel_rfl
theorem assignableEC (w : World) : (mAssignableTo #[.agg #[typeHandle Tryz.prog 67], .iface 160 (.agg #[typeHandle Tryz.prog 67])]).run Tryz.prog w = .ok (.bool true) w := by kernel_rfl
theorem valueOfEC (x : Int) (w : World) : (mValueOf #[.iface 67 (.int .i64 x)]).run Tryz.prog w
    = .ok (.agg #[typeHandle Tryz.prog 67, .pointer (some ⟨w.heap.size, 0, none⟩), .int .u64 130]) (w.alloc (.cells #[.int .i64 x] 67)) := by kernel_rfl
theorem elemOfPC (w : World) : (Rtype.elem? 107).run Tryz.prog w = .ok (some 67) w := by kernel_rfl
theorem mkEC (p : Addr) (w : World) : (ReflectliteValue.mk 67 p ReflectliteValue.flagAddr).run Tryz.prog w = .ok (.agg #[typeHandle Tryz.prog 67, .pointer (some p), .int .u64 386]) w := by kernel_rfl
theorem elemVPC (a p : Addr) (W : World) (ha : W.cell? a = some (.pointer (some p))) :
    (mElemV #[.agg #[typeHandle Tryz.prog 107, .pointer (some a), .int .u64 150]]).run Tryz.prog W
      = .ok (.agg #[typeHandle Tryz.prog 67, .pointer (some p), .int .u64 386]) W := by
  unfold mElemV
  rw [rlm]
  simp only [Sem.run_bind, partsPC, Result.andThen]
  simp [ReflectliteValue.elem, loadVar, isAgg, underlying, Tryz.underlying107, ha, Result.andThen, elemOfPC, mkEC]
theorem partsEaC (a : Addr) (w : World) : (ReflectliteValue.parts (.agg #[typeHandle Tryz.prog 67, .pointer (some a), .int .u64 386])).run Tryz.prog w = .ok (some (67, a, 386)) w := by kernel_rfl
theorem partsEC (a : Addr) (w : World) : (ReflectliteValue.parts (.agg #[typeHandle Tryz.prog 67, .pointer (some a), .int .u64 130])).run Tryz.prog w = .ok (some (67, a, 130)) w := by kernel_rfl
theorem directEC (w : World) : (Rtype.directlyAssignable 67 67).run Tryz.prog w = .ok true w := by kernel_rfl
theorem setEC (ta b : Addr) (x : Int) (old : Value) (W : World) (hb : W.cell? b = some (.int .i64 x)) (ht : W.cell? ta = some old) (hf : W.frozen? ta = false) :
    (ReflectliteValue.set #[.agg #[typeHandle Tryz.prog 67, .pointer (some ta), .int .u64 386], .agg #[typeHandle Tryz.prog 67, .pointer (some b), .int .u64 130]]).run Tryz.prog W
      = .ok (.tuple #[]) (W.setCell ta (.int .i64 x)) := by
  rw [rls]
  simp only [Sem.run_bind, partsEaC, partsEC, Result.andThen]
  simp [ReflectliteValue.flagAddr, loadVar, isAgg, underlying, Tryz.underlying67, hb, Result.andThen, directEC, storeVar, Value.cells, storeCells, Addr.add]
  rw [run_store Tryz.prog W ta _ _ (by rfl)]
  simp [ht, hf]

theorem valueOfPF (t : Addr) (w : World) : (mValueOf #[.iface 109 (.pointer (some t))]).run Tryz.prog w
    = .ok (.agg #[typeHandle Tryz.prog 109, .pointer (some ⟨w.heap.size, 0, none⟩), .int .u64 150]) (w.alloc (.cells #[.pointer (some t)] 109)) := by kernel_rfl
theorem typePF (a : Addr) (w : World) : (mType #[.agg #[typeHandle Tryz.prog 109, .pointer (some a), .int .u64 150]]).run Tryz.prog w
    = .ok (.iface 160 (.agg #[typeHandle Tryz.prog 109])) w := by kernel_rfl
theorem kindPF (w : World) : (mKind #[typeHandle Tryz.prog 109]).run Tryz.prog w = .ok (.int .u8 22) w := by kernel_rfl
theorem kindEF (w : World) : (mKind #[typeHandle Tryz.prog 108]).run Tryz.prog w = .ok (.int .u8 22) w := by kernel_rfl
theorem partsPF (a : Addr) (w : World) : (ReflectliteValue.parts (.agg #[typeHandle Tryz.prog 109, .pointer (some a), .int .u64 150])).run Tryz.prog w = .ok (some (109, a, 150)) w := by kernel_rfl
theorem isNilPF (a p : Addr) (W : World) (ha : W.cell? a = some (.pointer (some p))) :
    (mIsNil #[.agg #[typeHandle Tryz.prog 109, .pointer (some a), .int .u64 150]]).run Tryz.prog W = .ok (.bool false) W := by
  unfold mIsNil
  rw [rlm]
  simp only [Sem.run_bind, partsPF, Result.andThen]
  simp [ReflectliteValue.isNil, loadVar, isAgg, underlying, Tryz.underlying109, ha, Result.andThen]
theorem elemPF (w : World) : (mElem #[.agg #[typeHandle Tryz.prog 109]]).run Tryz.prog w = .ok (.iface 160 (.agg #[typeHandle Tryz.prog 108])) w := by kernel_rfl
theorem implementsEF (w : World) : (mImplements #[.agg #[typeHandle Tryz.prog 108], .iface 160 (.agg #[typeHandle Tryz.prog 29])]).run Tryz.prog w = .ok (.bool true) w := by kernel_rfl
theorem typeOfEF (v : Value) (w : World) : (ReflectliteType.typeOf #[.iface 108 v]).run Tryz.prog w = .ok (.iface 160 (.agg #[typeHandle Tryz.prog 108])) w := by kernel_rfl
theorem assignableEF (w : World) : (mAssignableTo #[.agg #[typeHandle Tryz.prog 108], .iface 160 (.agg #[typeHandle Tryz.prog 108])]).run Tryz.prog w = .ok (.bool true) w := by kernel_rfl
theorem valueOfEF (x : Addr) (w : World) : (mValueOf #[.iface 108 (.pointer (some x))]).run Tryz.prog w
    = .ok (.agg #[typeHandle Tryz.prog 108, .pointer (some ⟨w.heap.size, 0, none⟩), .int .u64 150]) (w.alloc (.cells #[.pointer (some x)] 108)) := by kernel_rfl
theorem elemOfPF (w : World) : (Rtype.elem? 109).run Tryz.prog w = .ok (some 108) w := by kernel_rfl
theorem mkEF (p : Addr) (w : World) : (ReflectliteValue.mk 108 p ReflectliteValue.flagAddr).run Tryz.prog w = .ok (.agg #[typeHandle Tryz.prog 108, .pointer (some p), .int .u64 406]) w := by kernel_rfl
theorem elemVPF (a p : Addr) (W : World) (ha : W.cell? a = some (.pointer (some p))) :
    (mElemV #[.agg #[typeHandle Tryz.prog 109, .pointer (some a), .int .u64 150]]).run Tryz.prog W
      = .ok (.agg #[typeHandle Tryz.prog 108, .pointer (some p), .int .u64 406]) W := by
  unfold mElemV
  rw [rlm]
  simp only [Sem.run_bind, partsPF, Result.andThen]
  simp [ReflectliteValue.elem, loadVar, isAgg, underlying, Tryz.underlying109, ha, Result.andThen, elemOfPF, mkEF]
theorem partsEaF (a : Addr) (w : World) : (ReflectliteValue.parts (.agg #[typeHandle Tryz.prog 108, .pointer (some a), .int .u64 406])).run Tryz.prog w = .ok (some (108, a, 406)) w := by kernel_rfl
theorem partsEF (a : Addr) (w : World) : (ReflectliteValue.parts (.agg #[typeHandle Tryz.prog 108, .pointer (some a), .int .u64 150])).run Tryz.prog w = .ok (some (108, a, 150)) w := by kernel_rfl
theorem directEF (w : World) : (Rtype.directlyAssignable 108 108).run Tryz.prog w = .ok true w := by kernel_rfl
theorem setEF (ta b : Addr) (x : Addr) (old : Value) (W : World) (hb : W.cell? b = some (.pointer (some x))) (ht : W.cell? ta = some old) (hf : W.frozen? ta = false) :
    (ReflectliteValue.set #[.agg #[typeHandle Tryz.prog 108, .pointer (some ta), .int .u64 406], .agg #[typeHandle Tryz.prog 108, .pointer (some b), .int .u64 150]]).run Tryz.prog W
      = .ok (.tuple #[]) (W.setCell ta (.pointer (some x))) := by
  rw [rls]
  simp only [Sem.run_bind, partsEaF, partsEF, Result.andThen]
  simp [ReflectliteValue.flagAddr, loadVar, isAgg, underlying, Tryz.underlying108, hb, Result.andThen, directEF, storeVar, Value.cells, storeCells, Addr.add]
  rw [run_store Tryz.prog W ta _ _ (by rfl)]
  simp [ht, hf]

/-- A fault is not a code; a code not a fault. -/
theorem assignableFC (w : World) : (mAssignableTo #[.agg #[typeHandle Tryz.prog 108], .iface 160 (.agg #[typeHandle Tryz.prog 67])]).run Tryz.prog w = .ok (.bool false) w := by kernel_rfl
theorem assignableCF (w : World) : (mAssignableTo #[.agg #[typeHandle Tryz.prog 67], .iface 160 (.agg #[typeHandle Tryz.prog 108])]).run Tryz.prog w = .ok (.bool false) w := by kernel_rfl
theorem noAsC (v : Value) (xT : TypeId) (w : World) : (Instr.typeAssert (.iface 67 v) xT 186 true).run Tryz.prog w = .ok (.tuple #[.nilIface, .bool false]) w := run_typeAssert_lacksB Tryz.underlying186 (by kernel_rfl) (by kernel_rfl) v xT w
theorem noAsF (v : Value) (xT : TypeId) (w : World) : (Instr.typeAssert (.iface 108 v) xT 186 true).run Tryz.prog w = .ok (.tuple #[.nilIface, .bool false]) w := run_typeAssert_lacksB Tryz.underlying186 (by kernel_rfl) (by kernel_rfl) v xT w
theorem noUnwrapC (v : Value) (xT : TypeId) (w : World) : (Instr.typeAssert (.iface 67 v) xT 165 true).run Tryz.prog w = .ok (.tuple #[.nilIface, .bool false]) w := run_typeAssert_lacksB Tryz.underlying165 (by kernel_rfl) (by kernel_rfl) v xT w
theorem noUnwrapsC (v : Value) (xT : TypeId) (w : World) : (Instr.typeAssert (.iface 67 v) xT 167 true).run Tryz.prog w = .ok (.tuple #[.nilIface, .bool false]) w := run_typeAssert_lacksB Tryz.underlying167 (by kernel_rfl) (by kernel_rfl) v xT w
theorem hasUnwrapF (a : Addr) (xT : TypeId) (w : World) : (Instr.typeAssert (.iface 108 (.pointer (some a))) xT 165 true).run Tryz.prog w = .ok (.tuple #[.iface 108 (.pointer (some a)), .bool true]) w := by kernel_rfl
theorem methodUnwrap (n : Nat) (a : Addr) (w : World) : (Go.method (n + 1) 108 (.pointer (some a)) "Unwrap").run Tryz.prog w = .ok (144, .pointer (some a)) w := by kernel_rfl
end Go.Proofs.YtgnoaeldmpbjmaaGreatDoor
/- errors.As at a code and at a fault, walked. -/
set_option linter.unusedVariables false
set_option linter.unusedSimpArgs false
namespace Go.Proofs.YtgnoaeldmpbjmaaGreatDoor
open Go.RowKit Go.Extern.Stop Go.Stop Go.Extern

/-- What package errors has laid: the type error's handle. -/
def Et (w : World) : Prop := w.cell? ⟨0, 0, none⟩ = some (.iface 160 (.agg #[typeHandle Tryz.prog 29]))
theorem Et.pos {w : World} (h : Et w) : 0 < w.heap.size := World.block_lt_of_cell? w _ h
theorem Et.below {B : Nat} {w w' : World} (h : Et w) (hb : Below B w w') (hB : 0 < B) : Et w' := (hb.cell (p := ⟨0, 0, none⟩) hB).trans h
/-- A variable's block. -/
abbrev Var (w : World) (b : Nat) (T : TypeId) (v : Value) : Prop := w.heap[b]? = some (.cells #[v] T (0, 0))
theorem var_set {w : World} {b : Nat} {T : TypeId} {v u : Value} (h : Var w b T v) : Var (w.setCell ⟨b, 0, none⟩ u) b T u := by
  unfold Var at h ⊢
  rw [setCell_heap_at h]
  rfl

set_option maxRecDepth 100000 in
set_option maxHeartbeats 4000000 in
/-- as: the error is what is asked for. -/
theorem as_hitC (w : World) (tb ab : Nat) (x : Int) (old : Value) (ht : Var w tb 67 old) (ha : w.cell? ⟨ab, 0, none⟩ = some (.pointer (some ⟨tb, 0, none⟩))) :
    Calls Tryz.prog 69 #[.iface 67 (.int .i64 x), .iface 107 (.pointer (some ⟨tb, 0, none⟩)), .agg #[typeHandle Tryz.prog 107, .pointer (some ⟨ab, 0, none⟩), .int .u64 150], .iface 160 (.agg #[typeHandle Tryz.prog 67])] w
      fun e w' => e = .returned (.bool true) ∧ Var w' tb 67 (.int .i64 x) ∧ Fr (fun i => i = tb) w w' := by
  have hTO := @run_callFunc_extern Tryz.prog 49 _ ReflectliteType.typeOf Tryz.func49 (by kernel_rfl) (by kernel_rfl) (by kernel_rfl) (by kernel_rfl)
  have hVO := @run_callFunc_extern Tryz.prog 66 _ mValueOf Tryz.func66 (by kernel_rfl) (by kernel_rfl) (by kernel_rfl) (by kernel_rfl)
  have hAS := @run_callFunc_extern Tryz.prog 150 _ mAssignableTo Tryz.func150 (by kernel_rfl) (by kernel_rfl) (by kernel_rfl) (by kernel_rfl)
  have hEV := @run_callFunc_extern Tryz.prog 87 _ mElemV Tryz.func87 (by kernel_rfl) (by kernel_rfl) (by kernel_rfl) (by kernel_rfl)
  have hSE := @run_callFunc_extern Tryz.prog 88 _ ReflectliteValue.set Tryz.func88 (by kernel_rfl) (by kernel_rfl) (by kernel_rfl) (by kernel_rfl)
  have tO := typeOfEC
  have mA := methodAssignableTo
  have aE := assignableEC
  have vE := valueOfEC
  have htl := blk_lt ht
  have hal := World.block_lt_of_cell? w _ ha
  have ht0 : w.cell? ⟨tb, 0, none⟩ = some old := cell_at (j := 0) ht rfl
  have hf0 := frozen_at (j := 0) ht
  have el := elemVPC ⟨ab, 0, none⟩ ⟨tb, 0, none⟩ (w.alloc (.cells #[typeHandle Tryz.prog 107, .pointer (some ⟨ab, 0, none⟩), .int .u64 150] 149)) ((cell_old _ _ _ hal).trans ha)
  have st := setEC ⟨tb, 0, none⟩ ⟨w.heap.size + 1, 0, none⟩ x old ((w.alloc (.cells #[typeHandle Tryz.prog 107, .pointer (some ⟨ab, 0, none⟩), .int .u64 150] 149)).alloc (.cells #[.int .i64 x] 67))
    (cell_new _ _ _ _ _ _ (by simp))
    ((cell_old _ _ _ (by simp; omega)).trans ((cell_old _ _ _ htl).trans ht0))
    (by rw [World.frozen?_alloc_old _ _ _ (by simp; omega), World.frozen?_alloc_old _ _ _ (Nat.ne_of_lt htl)]; exact hf0)
  have HT := Lib.hid ht
  clear ht ht0 hf0
  go_enter Tryz.func69, Tryz.ntmps69
  go_wp2
  refine wp_loop_rounds 1 ?_
  rw [rounds_succ]
  go_wp2
  go_ret
  refine ⟨rfl, ?_, ?_⟩
  · exact (heap_old_at _ _ _ (by simp; omega)).trans ((heap_old_at _ _ _ (by simp; omega)).trans (var_set HT.out))
  · exact (Fr.setCell (S := fun i => i = tb) w ⟨tb, 0, none⟩ _ rfl).trans ((Fr.alloc _ _).trans (Fr.alloc _ _))

set_option maxRecDepth 100000 in
set_option maxHeartbeats 4000000 in
/-- as: the error is what is asked for. -/
theorem as_hitF (w : World) (tb ab : Nat) (x : Addr) (old : Value) (ht : Var w tb 108 old) (ha : w.cell? ⟨ab, 0, none⟩ = some (.pointer (some ⟨tb, 0, none⟩))) :
    Calls Tryz.prog 69 #[.iface 108 (.pointer (some x)), .iface 109 (.pointer (some ⟨tb, 0, none⟩)), .agg #[typeHandle Tryz.prog 109, .pointer (some ⟨ab, 0, none⟩), .int .u64 150], .iface 160 (.agg #[typeHandle Tryz.prog 108])] w
      fun e w' => e = .returned (.bool true) ∧ Var w' tb 108 (.pointer (some x)) ∧ Fr (fun i => i = tb) w w' := by
  have hTO := @run_callFunc_extern Tryz.prog 49 _ ReflectliteType.typeOf Tryz.func49 (by kernel_rfl) (by kernel_rfl) (by kernel_rfl) (by kernel_rfl)
  have hVO := @run_callFunc_extern Tryz.prog 66 _ mValueOf Tryz.func66 (by kernel_rfl) (by kernel_rfl) (by kernel_rfl) (by kernel_rfl)
  have hAS := @run_callFunc_extern Tryz.prog 150 _ mAssignableTo Tryz.func150 (by kernel_rfl) (by kernel_rfl) (by kernel_rfl) (by kernel_rfl)
  have hEV := @run_callFunc_extern Tryz.prog 87 _ mElemV Tryz.func87 (by kernel_rfl) (by kernel_rfl) (by kernel_rfl) (by kernel_rfl)
  have hSE := @run_callFunc_extern Tryz.prog 88 _ ReflectliteValue.set Tryz.func88 (by kernel_rfl) (by kernel_rfl) (by kernel_rfl) (by kernel_rfl)
  have tO := typeOfEF
  have mA := methodAssignableTo
  have aE := assignableEF
  have vE := valueOfEF
  have htl := blk_lt ht
  have hal := World.block_lt_of_cell? w _ ha
  have ht0 : w.cell? ⟨tb, 0, none⟩ = some old := cell_at (j := 0) ht rfl
  have hf0 := frozen_at (j := 0) ht
  have el := elemVPF ⟨ab, 0, none⟩ ⟨tb, 0, none⟩ (w.alloc (.cells #[typeHandle Tryz.prog 109, .pointer (some ⟨ab, 0, none⟩), .int .u64 150] 149)) ((cell_old _ _ _ hal).trans ha)
  have st := setEF ⟨tb, 0, none⟩ ⟨w.heap.size + 1, 0, none⟩ x old ((w.alloc (.cells #[typeHandle Tryz.prog 109, .pointer (some ⟨ab, 0, none⟩), .int .u64 150] 149)).alloc (.cells #[.pointer (some x)] 108))
    (cell_new _ _ _ _ _ _ (by simp))
    ((cell_old _ _ _ (by simp; omega)).trans ((cell_old _ _ _ htl).trans ht0))
    (by rw [World.frozen?_alloc_old _ _ _ (by simp; omega), World.frozen?_alloc_old _ _ _ (Nat.ne_of_lt htl)]; exact hf0)
  have HT := Lib.hid ht
  clear ht ht0 hf0
  go_enter Tryz.func69, Tryz.ntmps69
  go_wp2
  refine wp_loop_rounds 1 ?_
  rw [rounds_succ]
  go_wp2
  go_ret
  refine ⟨rfl, ?_, ?_⟩
  · exact (heap_old_at _ _ _ (by simp; omega)).trans ((heap_old_at _ _ _ (by simp; omega)).trans (var_set HT.out))
  · exact (Fr.setCell (S := fun i => i = tb) w ⟨tb, 0, none⟩ _ rfl).trans ((Fr.alloc _ _).trans (Fr.alloc _ _))

set_option maxRecDepth 100000 in
set_option maxHeartbeats 4000000 in
/-- as: a code is no fault. -/
theorem as_miss (w : World) (t : Value) (ab : Nat) (c : Int) :
    Calls Tryz.prog 69 #[.iface 67 (.int .i64 c), t, .agg #[typeHandle Tryz.prog 109, .pointer (some ⟨ab, 0, none⟩), .int .u64 150], .iface 160 (.agg #[typeHandle Tryz.prog 108])] w
      fun e w' => e = .returned (.bool false) ∧ Below w.heap.size w w' := by
  have hTO := @run_callFunc_extern Tryz.prog 49 _ ReflectliteType.typeOf Tryz.func49 (by kernel_rfl) (by kernel_rfl) (by kernel_rfl) (by kernel_rfl)
  have hAS := @run_callFunc_extern Tryz.prog 150 _ mAssignableTo Tryz.func150 (by kernel_rfl) (by kernel_rfl) (by kernel_rfl) (by kernel_rfl)
  have tO := typeOfEC
  have mA := methodAssignableTo
  have aE := assignableCF
  have n1 := noAsC
  have n2 := noUnwrapC
  have n3 := noUnwrapsC
  go_enter Tryz.func69, Tryz.ntmps69
  go_wp2
  refine wp_loop_rounds 1 ?_
  rw [rounds_succ]
  go_wp2
  go_ret
  exact ⟨rfl, (Below.refl _ _).alloc (Nat.le_refl _) _⟩
/-- How many faults lie about an error's code. -/
def fdepth (w : World) : Nat → Value → Nat
  | 0, _ => 0
  | n + 1, .iface _ (.pointer (some a)) => match w.heap[a.block]? with
    | some (.cells cs _ _) => fdepth w n (cs.getD 2 undef) + 1
    | _ => 0
  | _ + 1, _ => 0
theorem fdepth_of {w : World} {Q : Nat → Prop} {v : Value} {p : List ByteArray} {c : Int} (h : Flt w Q v p c) : ∀ n, p.length ≤ n → fdepth w n v = p.length := by
  induction h with
  | code c => intro n _; cases n <;> rfl
  | fault g f v p c hg hP h ih =>
    intro n hn
    cases n with
    | zero => simp at hn
    | succ n =>
      have := ih n (by simp at hn; omega)
      simp [fdepth, hg, this]
theorem Flt.shape {w : World} {Q : Nat → Prop} {v : Value} {p : List ByteArray} {c : Int} (h : Flt w Q v p c) : ∃ t u, v = .iface t u := by cases h <;> exact ⟨_, _, rfl⟩
theorem unwrap_calls (w : World) (g : Nat) (f : ByteArray) (v : Value) (hg : w.heap[g]? = some (.cells #[.int .i64 (-1), .string f, v] 111 (0, 0))) :
    Calls Tryz.prog 144 #[.pointer (some ⟨g, 0, none⟩)] w fun e w' => e = .returned v ∧ w' = w := by
  have k2 := cell_at (j := 2) hg rfl
  clear hg
  go_enter Tryz.func144, Tryz.ntmps144
  go_wp2_with fail
  go_ret
  exact ⟨rfl, rfl⟩
set_option maxRecDepth 100000 in
set_option maxHeartbeats 4000000 in
/-- as: the code within. -/
theorem as_code (w : World) (tb ab : Nat) (Q : Nat → Prop) (v : Value) (p : List ByteArray) (c : Int) (old : Value) (hf : Flt w Q v p c) (ht : Var w tb 67 old) (ha : w.cell? ⟨ab, 0, none⟩ = some (.pointer (some ⟨tb, 0, none⟩))) :
    Calls Tryz.prog 69 #[v, .iface 107 (.pointer (some ⟨tb, 0, none⟩)), .agg #[typeHandle Tryz.prog 107, .pointer (some ⟨ab, 0, none⟩), .int .u64 150], .iface 160 (.agg #[typeHandle Tryz.prog 67])] w
      fun e w' => e = .returned (.bool true) ∧ Var w' tb 67 (.int .i64 c) ∧ Fr (fun i => i = tb) w w' := by
  have hTO := @run_callFunc_extern Tryz.prog 49 _ ReflectliteType.typeOf Tryz.func49 (by kernel_rfl) (by kernel_rfl) (by kernel_rfl) (by kernel_rfl)
  have hVO := @run_callFunc_extern Tryz.prog 66 _ mValueOf Tryz.func66 (by kernel_rfl) (by kernel_rfl) (by kernel_rfl) (by kernel_rfl)
  have hAS := @run_callFunc_extern Tryz.prog 150 _ mAssignableTo Tryz.func150 (by kernel_rfl) (by kernel_rfl) (by kernel_rfl) (by kernel_rfl)
  have hEV := @run_callFunc_extern Tryz.prog 87 _ mElemV Tryz.func87 (by kernel_rfl) (by kernel_rfl) (by kernel_rfl) (by kernel_rfl)
  have hSE := @run_callFunc_extern Tryz.prog 88 _ ReflectliteValue.set Tryz.func88 (by kernel_rfl) (by kernel_rfl) (by kernel_rfl) (by kernel_rfl)
  have tO := typeOfEC
  have tOF := typeOfEF
  have mA := methodAssignableTo
  have mU := methodUnwrap
  have aE := assignableEC
  have aF := assignableFC
  have vE := valueOfEC
  have n1 := noAsC
  have n4 := noAsF
  have n5 := hasUnwrapF
  have htl := blk_lt ht
  have hal := World.block_lt_of_cell? w _ ha
  have ht0 : w.cell? ⟨tb, 0, none⟩ = some old := cell_at (j := 0) ht rfl
  have hf0 := frozen_at (j := 0) ht
  have el := elemVPC ⟨ab, 0, none⟩ ⟨tb, 0, none⟩ (w.alloc (.cells #[typeHandle Tryz.prog 107, .pointer (some ⟨ab, 0, none⟩), .int .u64 150] 149)) ((cell_old _ _ _ hal).trans ha)
  have st := setEC ⟨tb, 0, none⟩ ⟨w.heap.size + 1, 0, none⟩ c old ((w.alloc (.cells #[typeHandle Tryz.prog 107, .pointer (some ⟨ab, 0, none⟩), .int .u64 150] 149)).alloc (.cells #[.int .i64 c] 67))
    (cell_new _ _ _ _ _ _ (by simp))
    ((cell_old _ _ _ (by simp; omega)).trans ((cell_old _ _ _ htl).trans ht0))
    (by rw [World.frozen?_alloc_old _ _ _ (by simp; omega), World.frozen?_alloc_old _ _ _ (Nat.ne_of_lt htl)]; exact hf0)
  have HT := Lib.hid ht
  have HF := Lib.hid (hf.same (w' := w.alloc (.cells #[typeHandle Tryz.prog 107, .pointer (some ⟨ab, 0, none⟩), .int .u64 150] 149)) (fun g hg _ => heap_old_at _ _ _ hg))
  obtain ⟨t0, u0, hv0⟩ := hf.shape
  subst hv0
  clear ht ht0 hf0 hf
  go_enter Tryz.func69, Tryz.ntmps69
  go_wp2_with fail
  go_loopw [0] (fun v wr => ∃ p', p'.length ≤ p.length ∧ Flt (w.alloc (.cells #[typeHandle Tryz.prog 107, .pointer (some ⟨ab, 0, none⟩), .int .u64 150] 149)) Q v p' c ∧ wr = w.alloc (.cells #[typeHandle Tryz.prog 107, .pointer (some ⟨ab, 0, none⟩), .int .u64 150] 149)) (fun v _ => fdepth (w.alloc (.cells #[typeHandle Tryz.prog 107, .pointer (some ⟨ab, 0, none⟩), .int .u64 150] 149)) p.length v)
  case atStart => exact ⟨p, Nat.le_refl _, HF.out, rfl⟩
  case round =>
    obtain ⟨p', hp, hf, rfl⟩ := hrel
    have HD := Lib.hid (fdepth_of hf p.length hp)
    cases hf with
    | code =>
      clear HF
      go_wp2_with fail
      go_ret
      refine ⟨rfl, ?_, ?_⟩
      · exact (heap_old_at _ _ _ (by simp; omega)).trans ((heap_old_at _ _ _ (by simp; omega)).trans (var_set HT.out))
      · exact (Fr.setCell (S := fun i => i = tb) w ⟨tb, 0, none⟩ _ rfl).trans ((Fr.alloc _ _).trans (Fr.alloc _ _))
    | fault g f v' p'' _ hg hQ h =>
      have HG := Lib.hid hg
      have HH := Lib.hid h
      have HPL := Lib.hid hp
      obtain ⟨t1, u1, hv1⟩ := h.shape
      subst hv1
      clear hg h HF hp hQ
      go_wp2_with fail
      refine (unwrap_calls _ g f _ HG.out).mono ?_
      rintro e w2 ⟨rfl, rfl⟩
      go_wp2_with fail
      refine ⟨⟨p'', by have := HPL.out; simp at this; omega, HH.out, by first | rfl | trivial⟩, ?_⟩
      have := HPL.out
      simp only [List.length_cons] at this
      rw [fdepth_of HH.out p.length (by omega), HD.out]
      simp

set_option maxRecDepth 100000 in
set_option maxHeartbeats 4000000 in
/-- errors.As: a fault, asked for. -/
theorem As_fault (w : World) (tb : Nat) (x : Addr) (old : Value) (ht : Var w tb 108 old) (het : Et w) :
    Calls Tryz.prog 41 #[.iface 108 (.pointer (some x)), .iface 109 (.pointer (some ⟨tb, 0, none⟩))] w
      fun e w' => e = .returned (.bool true) ∧ Var w' tb 108 (.pointer (some x)) ∧ Fr (fun i => i = tb) w w' := by
  have hVO := @run_callFunc_extern Tryz.prog 66 _ mValueOf Tryz.func66 (by kernel_rfl) (by kernel_rfl) (by kernel_rfl) (by kernel_rfl)
  have hTY := @run_callFunc_extern Tryz.prog 67 _ mType Tryz.func67 (by kernel_rfl) (by kernel_rfl) (by kernel_rfl) (by kernel_rfl)
  have hIN := @run_callFunc_extern Tryz.prog 68 _ mIsNil Tryz.func68 (by kernel_rfl) (by kernel_rfl) (by kernel_rfl) (by kernel_rfl)
  have hKI := @run_callFunc_extern Tryz.prog 135 _ mKind Tryz.func135 (by kernel_rfl) (by kernel_rfl) (by kernel_rfl) (by kernel_rfl)
  have hEL := @run_callFunc_extern Tryz.prog 152 _ mElem Tryz.func152 (by kernel_rfl) (by kernel_rfl) (by kernel_rfl) (by kernel_rfl)
  have hIM := @run_callFunc_extern Tryz.prog 153 _ mImplements Tryz.func153 (by kernel_rfl) (by kernel_rfl) (by kernel_rfl) (by kernel_rfl)
  have vP := valueOfPF
  have tP := typePF
  have mK := methodKind
  have mE := methodElem
  have mI := methodImplements
  have kP := kindPF
  have kE := kindEF
  have eP := elemPF
  have iE := implementsEF
  have rs := fun (W : World) (a : Addr) => run_store Tryz.prog W a (typeHandle Tryz.prog 109) .plain (by kernel_rfl)
  have hel := het.pos
  have htl := blk_lt ht
  have nP := isNilPF ⟨w.heap.size, 0, none⟩ ⟨tb, 0, none⟩ ((w.alloc (.cells #[.pointer (some ⟨tb, 0, none⟩)] 109)).alloc (.cells #[typeHandle Tryz.prog 109, .pointer (some ⟨w.heap.size, 0, none⟩), .int .u64 150] 149)) ((cell_old _ _ _ (by simp)).trans (cell_new _ _ _ _ _ _ rfl))
  have hg2 : ((w.alloc (.cells #[.pointer (some ⟨tb, 0, none⟩)] 109)).alloc (.cells #[typeHandle Tryz.prog 109, .pointer (some ⟨w.heap.size, 0, none⟩), .int .u64 150] 149)).cell? ⟨0, 0, none⟩ = some (.iface 160 (.agg #[typeHandle Tryz.prog 29])) := (cell_old _ _ _ (by simp <;> omega)).trans ((cell_old _ _ _ hel).trans het)
  have ha2 : ((w.alloc (.cells #[.pointer (some ⟨tb, 0, none⟩)] 109)).alloc (.cells #[typeHandle Tryz.prog 109, .pointer (some ⟨w.heap.size, 0, none⟩), .int .u64 150] 149)).cell? ⟨w.heap.size, 0, none⟩ = some (.pointer (some ⟨tb, 0, none⟩)) := (cell_old _ _ _ (by simp)).trans (cell_new _ _ _ _ _ _ rfl)
  have ht2 : Var ((w.alloc (.cells #[.pointer (some ⟨tb, 0, none⟩)] 109)).alloc (.cells #[typeHandle Tryz.prog 109, .pointer (some ⟨w.heap.size, 0, none⟩), .int .u64 150] 149)) tb 108 old := (heap_old_at _ _ _ (by simp; omega)).trans ((heap_old_at _ _ _ htl).trans ht)
  have HC := Lib.hid (as_hitF ((w.alloc (.cells #[.pointer (some ⟨tb, 0, none⟩)] 109)).alloc (.cells #[typeHandle Tryz.prog 109, .pointer (some ⟨w.heap.size, 0, none⟩), .int .u64 150] 149)) tb w.heap.size x old ht2 ha2)
  have HB := Lib.hid (show Below w.heap.size w ((w.alloc (.cells #[.pointer (some ⟨tb, 0, none⟩)] 109)).alloc (.cells #[typeHandle Tryz.prog 109, .pointer (some ⟨w.heap.size, 0, none⟩), .int .u64 150] 149)) from ((Below.refl _ _).alloc (Nat.le_refl _) _).alloc (by simp) _)
  clear ha2 ht2 ht het
  go_enter Tryz.func41, Tryz.ntmps41
  go_wp2_with fail
  refine HC.out.mono ?_
  rintro e w3 ⟨rfl, hv, hfr⟩
  have HV := Lib.hid hv
  have HFR := Lib.hid ((Fr.of_below HB.out).trans hfr)
  clear hv hfr
  go_wp2_with fail
  go_ret
  exact ⟨rfl, HV.out, HFR.out⟩

set_option maxRecDepth 100000 in
set_option maxHeartbeats 4000000 in
/-- errors.As: no fault about a code. -/
theorem As_miss (w : World) (tb : Nat) (c : Int) (old : Value) (ht : Var w tb 108 old) (het : Et w) :
    Calls Tryz.prog 41 #[.iface 67 (.int .i64 c), .iface 109 (.pointer (some ⟨tb, 0, none⟩))] w
      fun e w' => e = .returned (.bool false) ∧ Below w.heap.size w w' := by
  have hVO := @run_callFunc_extern Tryz.prog 66 _ mValueOf Tryz.func66 (by kernel_rfl) (by kernel_rfl) (by kernel_rfl) (by kernel_rfl)
  have hTY := @run_callFunc_extern Tryz.prog 67 _ mType Tryz.func67 (by kernel_rfl) (by kernel_rfl) (by kernel_rfl) (by kernel_rfl)
  have hIN := @run_callFunc_extern Tryz.prog 68 _ mIsNil Tryz.func68 (by kernel_rfl) (by kernel_rfl) (by kernel_rfl) (by kernel_rfl)
  have hKI := @run_callFunc_extern Tryz.prog 135 _ mKind Tryz.func135 (by kernel_rfl) (by kernel_rfl) (by kernel_rfl) (by kernel_rfl)
  have hEL := @run_callFunc_extern Tryz.prog 152 _ mElem Tryz.func152 (by kernel_rfl) (by kernel_rfl) (by kernel_rfl) (by kernel_rfl)
  have hIM := @run_callFunc_extern Tryz.prog 153 _ mImplements Tryz.func153 (by kernel_rfl) (by kernel_rfl) (by kernel_rfl) (by kernel_rfl)
  have vP := valueOfPF
  have tP := typePF
  have mK := methodKind
  have mE := methodElem
  have mI := methodImplements
  have kP := kindPF
  have kE := kindEF
  have eP := elemPF
  have iE := implementsEF
  have rs := fun (W : World) (a : Addr) => run_store Tryz.prog W a (typeHandle Tryz.prog 109) .plain (by kernel_rfl)
  have hel := het.pos
  have htl := blk_lt ht
  have nP := isNilPF ⟨w.heap.size, 0, none⟩ ⟨tb, 0, none⟩ ((w.alloc (.cells #[.pointer (some ⟨tb, 0, none⟩)] 109)).alloc (.cells #[typeHandle Tryz.prog 109, .pointer (some ⟨w.heap.size, 0, none⟩), .int .u64 150] 149)) ((cell_old _ _ _ (by simp)).trans (cell_new _ _ _ _ _ _ rfl))
  have hg2 : ((w.alloc (.cells #[.pointer (some ⟨tb, 0, none⟩)] 109)).alloc (.cells #[typeHandle Tryz.prog 109, .pointer (some ⟨w.heap.size, 0, none⟩), .int .u64 150] 149)).cell? ⟨0, 0, none⟩ = some (.iface 160 (.agg #[typeHandle Tryz.prog 29])) := (cell_old _ _ _ (by simp <;> omega)).trans ((cell_old _ _ _ hel).trans het)
  have ha2 : ((w.alloc (.cells #[.pointer (some ⟨tb, 0, none⟩)] 109)).alloc (.cells #[typeHandle Tryz.prog 109, .pointer (some ⟨w.heap.size, 0, none⟩), .int .u64 150] 149)).cell? ⟨w.heap.size, 0, none⟩ = some (.pointer (some ⟨tb, 0, none⟩)) := (cell_old _ _ _ (by simp)).trans (cell_new _ _ _ _ _ _ rfl)
  have ht2 : Var ((w.alloc (.cells #[.pointer (some ⟨tb, 0, none⟩)] 109)).alloc (.cells #[typeHandle Tryz.prog 109, .pointer (some ⟨w.heap.size, 0, none⟩), .int .u64 150] 149)) tb 108 old := (heap_old_at _ _ _ (by simp; omega)).trans ((heap_old_at _ _ _ htl).trans ht)
  have HC := Lib.hid (as_miss ((w.alloc (.cells #[.pointer (some ⟨tb, 0, none⟩)] 109)).alloc (.cells #[typeHandle Tryz.prog 109, .pointer (some ⟨w.heap.size, 0, none⟩), .int .u64 150] 149)) (.iface 109 (.pointer (some ⟨tb, 0, none⟩))) w.heap.size c)
  have HB := Lib.hid (show Below w.heap.size w ((w.alloc (.cells #[.pointer (some ⟨tb, 0, none⟩)] 109)).alloc (.cells #[typeHandle Tryz.prog 109, .pointer (some ⟨w.heap.size, 0, none⟩), .int .u64 150] 149)) from ((Below.refl _ _).alloc (Nat.le_refl _) _).alloc (by simp) _)
  clear ha2 ht2 ht het
  go_enter Tryz.func41, Tryz.ntmps41
  go_wp2_with fail
  refine HC.out.mono ?_
  rintro e w3 ⟨rfl, hb⟩
  have HB3 := Lib.hid (HB.out.trans (hb.mono HB.out.size))
  clear hb
  go_wp2_with fail
  go_ret
  exact ⟨rfl, HB3.out⟩

set_option maxRecDepth 100000 in
set_option maxHeartbeats 4000000 in
/-- errors.As: the code. -/
theorem As_code (w : World) (tb : Nat) (Q : Nat → Prop) (v : Value) (p : List ByteArray) (c : Int) (old : Value) (hf : Flt w Q v p c) (ht : Var w tb 67 old) (het : Et w) :
    Calls Tryz.prog 41 #[v, .iface 107 (.pointer (some ⟨tb, 0, none⟩))] w
      fun e w' => e = .returned (.bool true) ∧ Var w' tb 67 (.int .i64 c) ∧ Fr (fun i => i = tb) w w' := by
  have hVO := @run_callFunc_extern Tryz.prog 66 _ mValueOf Tryz.func66 (by kernel_rfl) (by kernel_rfl) (by kernel_rfl) (by kernel_rfl)
  have hTY := @run_callFunc_extern Tryz.prog 67 _ mType Tryz.func67 (by kernel_rfl) (by kernel_rfl) (by kernel_rfl) (by kernel_rfl)
  have hIN := @run_callFunc_extern Tryz.prog 68 _ mIsNil Tryz.func68 (by kernel_rfl) (by kernel_rfl) (by kernel_rfl) (by kernel_rfl)
  have hKI := @run_callFunc_extern Tryz.prog 135 _ mKind Tryz.func135 (by kernel_rfl) (by kernel_rfl) (by kernel_rfl) (by kernel_rfl)
  have hEL := @run_callFunc_extern Tryz.prog 152 _ mElem Tryz.func152 (by kernel_rfl) (by kernel_rfl) (by kernel_rfl) (by kernel_rfl)
  have hIM := @run_callFunc_extern Tryz.prog 153 _ mImplements Tryz.func153 (by kernel_rfl) (by kernel_rfl) (by kernel_rfl) (by kernel_rfl)
  have vP := valueOfPC
  have tP := typePC
  have mK := methodKind
  have mE := methodElem
  have mI := methodImplements
  have kP := kindPC
  have kE := kindEC
  have eP := elemPC
  have iE := implementsEC
  have rs := fun (W : World) (a : Addr) => run_store Tryz.prog W a (typeHandle Tryz.prog 107) .plain (by kernel_rfl)
  have hel := het.pos
  have htl := blk_lt ht
  have nP := isNilPC ⟨w.heap.size, 0, none⟩ ⟨tb, 0, none⟩ ((w.alloc (.cells #[.pointer (some ⟨tb, 0, none⟩)] 107)).alloc (.cells #[typeHandle Tryz.prog 107, .pointer (some ⟨w.heap.size, 0, none⟩), .int .u64 150] 149)) ((cell_old _ _ _ (by simp)).trans (cell_new _ _ _ _ _ _ rfl))
  have hg2 : ((w.alloc (.cells #[.pointer (some ⟨tb, 0, none⟩)] 107)).alloc (.cells #[typeHandle Tryz.prog 107, .pointer (some ⟨w.heap.size, 0, none⟩), .int .u64 150] 149)).cell? ⟨0, 0, none⟩ = some (.iface 160 (.agg #[typeHandle Tryz.prog 29])) := (cell_old _ _ _ (by simp <;> omega)).trans ((cell_old _ _ _ hel).trans het)
  have ha2 : ((w.alloc (.cells #[.pointer (some ⟨tb, 0, none⟩)] 107)).alloc (.cells #[typeHandle Tryz.prog 107, .pointer (some ⟨w.heap.size, 0, none⟩), .int .u64 150] 149)).cell? ⟨w.heap.size, 0, none⟩ = some (.pointer (some ⟨tb, 0, none⟩)) := (cell_old _ _ _ (by simp)).trans (cell_new _ _ _ _ _ _ rfl)
  have ht2 : Var ((w.alloc (.cells #[.pointer (some ⟨tb, 0, none⟩)] 107)).alloc (.cells #[typeHandle Tryz.prog 107, .pointer (some ⟨w.heap.size, 0, none⟩), .int .u64 150] 149)) tb 67 old := (heap_old_at _ _ _ (by simp; omega)).trans ((heap_old_at _ _ _ htl).trans ht)
  obtain ⟨t0, u0, hv0⟩ := hf.shape
  subst hv0
  have HC := Lib.hid (as_code ((w.alloc (.cells #[.pointer (some ⟨tb, 0, none⟩)] 107)).alloc (.cells #[typeHandle Tryz.prog 107, .pointer (some ⟨w.heap.size, 0, none⟩), .int .u64 150] 149)) tb w.heap.size Q _ p c old (hf.same (fun g hg _ => (heap_old_at _ _ _ (by simp; omega)).trans (heap_old_at _ _ _ hg))) ht2 ha2)
  have HB := Lib.hid (show Below w.heap.size w ((w.alloc (.cells #[.pointer (some ⟨tb, 0, none⟩)] 107)).alloc (.cells #[typeHandle Tryz.prog 107, .pointer (some ⟨w.heap.size, 0, none⟩), .int .u64 150] 149)) from ((Below.refl _ _).alloc (Nat.le_refl _) _).alloc (by simp) _)
  clear ha2 ht2 ht het
  go_enter Tryz.func41, Tryz.ntmps41
  go_wp2_with fail
  refine HC.out.mono ?_
  rintro e w3 ⟨rfl, hv, hfr⟩
  have HV := Lib.hid hv
  have HFR := Lib.hid ((Fr.of_below HB.out).trans hfr)
  clear hv hfr
  go_wp2_with fail
  go_ret
  exact ⟨rfl, HV.out, HFR.out⟩
end Go.Proofs.YtgnoaeldmpbjmaaGreatDoor
/- ident: a name's kind: what the functions compute, whatever the text. -/
namespace Go.Proofs.YtgnoaeldmpbjmaaGreatDoor
open Go.RowKit

/-- The variable that the search reads is a number. -/
def Mx (w : World) : Prop := ∃ m, w.cell? ⟨1, 0, none⟩ = some (.int .i64 m)
theorem Mx.pos {w : World} (h : Mx w) : 1 < w.heap.size := by
  obtain ⟨m, h⟩ := h
  exact World.block_lt_of_cell? w _ h
theorem Mx.below {B : Nat} {w w' : World} (h : Mx w) (hb : Below B w w') (hB : 1 < B) : Mx w' := by
  obtain ⟨m, h⟩ := h
  exact ⟨m, (hb.cell (p := ⟨1, 0, none⟩) hB).trans h⟩

def digitB (c : UInt8) : Bool := decide (48 ≤ c.toNat) && decide (c.toNat ≤ 57)
def plainB (c : UInt8) : Bool := (decide (97 ≤ c.toNat) && decide (c.toNat ≤ 122)) || digitB c
def opaqueB (c : UInt8) : Bool := plainB c || (decide (65 ≤ c.toNat) && decide (c.toNat ≤ 90)) || (c.toNat == 95) || (c.toNat == 45) || (c.toNat == 46)
def withB (more : List UInt8) (p : UInt8 → Bool) (c : UInt8) : Bool := p c || decide (0 ≤ Lib.indexByte more c)
def allB (p : UInt8 → Bool) (most : Nat) (s : List UInt8) : Bool := s.all p && (!s.isEmpty && decide (s.length ≤ most))

theorem digit_calls (w : World) (c : UInt8) : Calls Tryz.prog 78 #[.int .u8 c.toNat] w fun e w' => e = .returned (.bool (digitB c)) ∧ w' = w := by
  have hc : c.toNat < 256 := c.toNat_lt
  by_cases h1 : 48 ≤ c.toNat
  · by_cases h2 : c.toNat ≤ 57
    · go_enter Tryz.func78, Tryz.ntmps78
      go_wp2_with fail
      go_ret
      exact ⟨by simp [digitB, h1, h2]; try omega, rfl⟩
    · go_enter Tryz.func78, Tryz.ntmps78
      go_wp2_with fail
      go_ret
      exact ⟨by simp [digitB, h1, h2]; try omega, rfl⟩
  · go_enter Tryz.func78, Tryz.ntmps78
    go_wp2_with fail
    go_ret
    exact ⟨by simp [digitB, h1], rfl⟩
theorem plain_calls (w : World) (c : UInt8) : Calls Tryz.prog 81 #[.int .u8 c.toNat] w fun e w' => e = .returned (.bool (plainB c)) ∧ w' = w := by
  have hc : c.toNat < 256 := c.toNat_lt
  by_cases h : 97 ≤ c.toNat ∧ c.toNat ≤ 122
  · obtain ⟨h1, h2⟩ := h
    go_enter Tryz.func81, Tryz.ntmps81
    go_wp2_with fail
    go_ret
    exact ⟨by simp [plainB, h1, h2], rfl⟩
  · have h' : plainB c = digitB c := by
      unfold plainB
      rw [show (decide (97 ≤ c.toNat) && decide (c.toNat ≤ 122)) = false by simp; omega]
      simp
    by_cases h1 : 97 ≤ c.toNat
    · have h2 : ¬ c.toNat ≤ 122 := fun e => h ⟨h1, e⟩
      go_enter Tryz.func81, Tryz.ntmps81
      go_wp2_with fail
      refine (digit_calls w c).mono ?_
      rintro e w1 ⟨rfl, rfl⟩
      go_wp2_with fail
      go_ret
      exact ⟨by simp [h', show ¬ ((c.toNat : Int) ≤ 122) by omega], rfl⟩
    · go_enter Tryz.func81, Tryz.ntmps81
      go_wp2_with fail
      refine (digit_calls w c).mono ?_
      rintro e w1 ⟨rfl, rfl⟩
      go_wp2_with fail
      go_ret
      exact ⟨by simp [h'], rfl⟩
theorem opaque_calls (w : World) (c : UInt8) : Calls Tryz.prog 82 #[.int .u8 c.toNat] w fun e w' => e = .returned (.bool (opaqueB c)) ∧ w' = w := by
  have hc : c.toNat < 256 := c.toNat_lt
  have HP := Lib.hid (plain_calls w c)
  obtain ⟨n, hn⟩ : ∃ n, c.toNat = n := ⟨_, rfl⟩
  have HN := Lib.hid hn
  have hcase : plainB c = true ∨ (plainB c = false ∧ 65 ≤ n ∧ n ≤ 90) ∨ (plainB c = false ∧ n = 95) ∨ (plainB c = false ∧ n = 45) ∨ (plainB c = false ∧ n = 46) ∨ (plainB c = false ∧ 65 ≤ n ∧ 90 < n ∧ n ≠ 95) ∨ (plainB c = false ∧ n < 65 ∧ n ≠ 45 ∧ n ≠ 46) := by
    cases plainB c <;> simp
    omega
  have hres : opaqueB c = (plainB c || (decide (65 ≤ n) && decide (n ≤ 90)) || (n == 95) || (n == 45) || (n == 46)) := by unfold opaqueB; rw [hn]
  rw [hn] at hc
  have HR := Lib.hid hres
  rw [hn] at HP
  rw [hn]
  clear hn hres
  rcases hcase with hp | ⟨hp, h1, h2⟩ | ⟨hp, h1⟩ | ⟨hp, h1⟩ | ⟨hp, h1⟩ | ⟨hp, h1, h2, h3⟩ | ⟨hp, h1, h2, h3⟩
  all_goals
    rw [hp] at HP
    have HRR := Lib.hid (show opaqueB c = (_ || _ || _ || _ || _) by rw [HR.out, hp])
  · go_enter Tryz.func82, Tryz.ntmps82
    go_wp2_with fail
    refine HP.out.mono ?_
    rintro e w1 ⟨rfl, rfl⟩
    go_wp2_with fail
    go_ret
    exact ⟨by rw [HRR.out]; simp, rfl⟩
  · go_enter Tryz.func82, Tryz.ntmps82
    go_wp2_with fail
    refine HP.out.mono ?_
    rintro e w1 ⟨rfl, rfl⟩
    go_wp2_with fail
    go_ret
    exact ⟨by rw [HRR.out]; simp [h1, h2]; try omega, rfl⟩
  · subst h1
    go_enter Tryz.func82, Tryz.ntmps82
    go_wp2_with fail
    refine HP.out.mono ?_
    rintro e w1 ⟨rfl, rfl⟩
    go_wp2_with fail
    go_ret
    exact ⟨by rw [HRR.out]; simp, rfl⟩
  · subst h1
    go_enter Tryz.func82, Tryz.ntmps82
    go_wp2_with fail
    refine HP.out.mono ?_
    rintro e w1 ⟨rfl, rfl⟩
    go_wp2_with fail
    go_ret
    exact ⟨by rw [HRR.out]; simp, rfl⟩
  · subst h1
    go_enter Tryz.func82, Tryz.ntmps82
    go_wp2_with fail
    refine HP.out.mono ?_
    rintro e w1 ⟨rfl, rfl⟩
    go_wp2_with fail
    go_ret
    exact ⟨by rw [HRR.out]; simp, rfl⟩
  · have e1 : ((n : Int) == 95) = false := beq_eq_false_iff_ne.2 (by omega)
    have e2 : ((n : Int) == 45) = false := beq_eq_false_iff_ne.2 (by omega)
    have e3 : ((n : Int) == 46) = false := beq_eq_false_iff_ne.2 (by omega)
    go_enter Tryz.func82, Tryz.ntmps82
    go_wp2_with fail
    refine HP.out.mono ?_
    rintro e w1 ⟨rfl, rfl⟩
    go_wp2_with fail
    go_ret
    exact ⟨by rw [HRR.out]; simp [show ¬ ((n : Int) ≤ 90) by omega, show ¬ n ≤ 90 by omega, h3, show n ≠ 45 by omega, show n ≠ 46 by omega], rfl⟩
  · have e1 : ((n : Int) == 95) = false := beq_eq_false_iff_ne.2 (by omega)
    have e2 : ((n : Int) == 45) = false := beq_eq_false_iff_ne.2 (by omega)
    have e3 : ((n : Int) == 46) = false := beq_eq_false_iff_ne.2 (by omega)
    go_enter Tryz.func82, Tryz.ntmps82
    go_wp2_with fail
    refine HP.out.mono ?_
    rintro e w1 ⟨rfl, rfl⟩
    go_wp2_with fail
    go_ret
    exact ⟨by rw [HRR.out]; simp; try omega, rfl⟩

theorem enter_plain : ∀ args W, Sem.run Tryz.prog (callFunc 81 args) W = .ok (.enter 81 args) W := fun _ _ => by kernel_rfl
theorem enter_opaque : ∀ args W, Sem.run Tryz.prog (callFunc 82 args) W = .ok (.enter 82 args) W := fun _ _ => by kernel_rfl
theorem enter_digit : ∀ args W, Sem.run Tryz.prog (callFunc 78 args) W = .ok (.enter 78 args) W := fun _ _ => by kernel_rfl
theorem enter_with1 : ∀ args W, Sem.run Tryz.prog (callFunc 95 args) W = .ok (.enter 95 args) W := fun _ _ => by kernel_rfl

/-- with$1: of a class and more bytes. -/
theorem with1_calls (w : World) (gf gm : Nat) (more : ByteArray) (c : UInt8) (hf : w.cell? ⟨gf, 0, none⟩ = some (.func (.func 81) #[] #[])) (hm : w.cell? ⟨gm, 0, none⟩ = some (.string more)) :
    Calls Tryz.prog 95 #[.int .u8 c.toNat, .pointer (some ⟨gf, 0, none⟩), .pointer (some ⟨gm, 0, none⟩)] w fun e w' => e = .returned (.bool (withB more.data.toList plainB c)) ∧ w' = w := by
  have hc : c.toNat < 256 := c.toNat_lt
  have HP := Lib.hid (plain_calls w c)
  have hep := enter_plain
  have HI := Lib.hid (Tryz.strings_IndexByte more (c.toNat : Nat) w)
  obtain ⟨ix, hix⟩ : ∃ ix, Lib.indexByte more.data.toList c = ix := ⟨_, rfl⟩
  have hu : ((c.toNat : Int)).toNat.toUInt8 = c := by simp
  rw [hu, hix] at HI
  have HW := Lib.hid (show withB more.data.toList plainB c = (plainB c || decide (0 ≤ ix)) by unfold withB; rw [hix])
  clear hix hu
  cases hp : plainB c
  · rw [hp] at HP HW
    have HW2 := Lib.hid HW.out
    go_enter Tryz.func95, Tryz.ntmps95
    go_wp2_with fail
    refine HP.out.mono ?_
    rintro e w1 ⟨rfl, rfl⟩
    go_wp2_with fail
    refine HI.out.mono ?_
    rintro e w1 ⟨rfl, rfl⟩
    go_wp2_with fail
    go_ret
    exact ⟨by rw [HW2.out]; simp, rfl⟩
  · rw [hp] at HP HW
    have HW2 := Lib.hid HW.out
    go_enter Tryz.func95, Tryz.ntmps95
    go_wp2_with fail
    refine HP.out.mono ?_
    rintro e w1 ⟨rfl, rfl⟩
    go_wp2_with fail
    go_ret
    exact ⟨by rw [HW2.out]; simp, rfl⟩
end Go.Proofs.YtgnoaeldmpbjmaaGreatDoor
/- ident, going on: all of a text's bytes, a server's name, a name's kind. -/
namespace Go.Proofs.YtgnoaeldmpbjmaaGreatDoor
open Go.RowKit

theorem with_calls (w : World) (more : ByteArray) : Calls Tryz.prog 80 #[.string more, .func (.func 81) #[] #[]] w
    fun e w' => e = .returned (.func (.func 95) #[] #[.pointer (some ⟨w.heap.size + 1, 0, none⟩), .pointer (some ⟨w.heap.size, 0, none⟩)]) ∧ w' = (w.alloc (.cells #[.string more] 9)).alloc (.cells #[.func (.func 81) #[] #[]] 176) := by
  go_enter Tryz.func80, Tryz.ntmps80
  go_wp2_with fail
  go_ret
  exact ⟨rfl, rfl⟩

/-- all: of a class that reads no memory but what was there. -/
theorem all_calls (w : World) (s : ByteArray) (most : Nat) (f : Nat) (first captured : Array Value) (p : UInt8 → Bool) (hs : s.size ≤ 9223372036854775807)
    (hcf : ∀ args W, Sem.run Tryz.prog (callFunc f args) W = .ok (.enter f args) W)
    (hp : ∀ c : UInt8, Calls Tryz.prog f (first.push (.int .u8 c.toNat) ++ captured) w fun e w' => e = .returned (.bool (p c)) ∧ w' = w) :
    Calls Tryz.prog 76 #[.string s, .int .i64 most, .func (.func f) first captured] w fun e w' => e = .returned (.bool (allB p most s.data.toList)) ∧ w' = w := by
  have HP := Lib.hid hp
  clear hp
  have hsz : s.data.toList.length = s.size := Array.length_toList
  have HSZ := Lib.hid hsz
  clear hsz
  go_enter Tryz.func76, Tryz.ntmps76
  go_wp2_with fail
  go_loopw [10] (fun i wr => ∃ k : Nat, k ≤ s.size ∧ i = .int .i64 k ∧ wr = w ∧ (s.data.toList.take k).all p = true) (fun i _ => s.size - (intOf i).toNat)
  case atStart => exact ⟨0, by omega, rfl, rfl, rfl⟩
  case round =>
    obtain ⟨k, hk, rfl, rfl, hall⟩ := hrel
    have HALL := Lib.hid hall
    clear hall
    by_cases hlt : k < s.size
    · go_wp2_with fail
      have hg : s.data.toList[k]? = some s[k] := by
        have h2 : k < s.data.size := hlt
        rw [Array.getElem?_toList, Array.getElem?_eq_getElem h2]
        rfl
      have hstep : (s.data.toList.take (k + 1)).all p = ((s.data.toList.take k).all p && p s[k]) := by
        rw [List.take_add_one, hg]; simp
      have HS := Lib.hid hstep
      have HG := Lib.hid hg
      clear hg hstep
      have HPK := HP.out s[k]
      generalize s[k] = ck at *
      refine HPK.mono ?_
      rintro e w1 ⟨rfl, rfl⟩
      have HP2 := Lib.hid HPK
      clear HPK
      by_cases hpk : p ck = true
      · have HPP := Lib.hid hpk
        rw [hpk]
        clear hpk
        go_wp2_with fail
        exact ⟨⟨k + 1, by omega, by go_num, (by first | rfl | trivial), by rw [HS.out, HALL.out, HPP.out]; rfl⟩, by simp [intOf]; omega⟩
      · have hpf : p ck = false := by simpa using hpk
        have HPP := Lib.hid hpf
        rw [hpf]
        clear hpk hpf
        go_wp2_with fail
        go_ret
        refine ⟨?_, rfl⟩
        have : s.data.toList.all p = false := by
          rw [List.all_eq_false]
          exact ⟨ck, List.mem_of_getElem? HG.out, by rw [HPP.out]; simp⟩
        simp [allB, this]
    · obtain rfl : k = s.size := by omega
      have hwhole : s.data.toList.all p = true := by
        have := HALL.out
        rw [List.take_of_length_le (by rw [HSZ.out]; exact Nat.le_refl _)] at this
        exact this
      have HWH := Lib.hid hwhole
      clear hwhole
      by_cases h0 : s.size = 0
      · have hse : s = ⟨#[]⟩ := by
          apply ByteArray.ext
          exact Array.size_eq_zero_iff.1 h0
        subst hse
        clear h0
        go_wp2_with fail
        go_ret
        exact ⟨by simp [allB], rfl⟩
      · have hemp : s.data.toList.isEmpty = false := by
          cases h : s.data.toList with
          | nil => have := HSZ.out; rw [h] at this; simp at this; omega
          | cons a b => rfl
        have HE := Lib.hid hemp
        have hne : ¬ s.toList = [] := by
          rw [ByteArray.toList_eq]
          intro e
          rw [e] at hemp
          cases hemp
        have hne2 : s.toList.isEmpty = false := by rw [ByteArray.toList_eq]; exact hemp
        clear hemp
        go_wp2_with fail
        go_ret
        refine ⟨?_, rfl⟩
        simp [allB, HWH.out, HE.out, HSZ.out]
end Go.Proofs.YtgnoaeldmpbjmaaGreatDoor
/- ident, the end: a server's name, a name's parts, whether it is of a kind. -/
namespace Go.Proofs.YtgnoaeldmpbjmaaGreatDoor
open Go.RowKit

def ofL (l : List UInt8) : ByteArray := ⟨l.toArray⟩
theorem ofL_list (l : List UInt8) : (ofL l).data.toList = l := by simp [ofL]
def serverB (s : List UInt8) : Bool := allB (withB [46, 45] plainB) 50 (Lib.cut s [58]).1 && (!(Lib.cut s [58]).2.2 || allB digitB 5 (Lib.cut s [58]).2.1)
def nameB : UInt8 → Bool := withB [46, 95, 61, 45, 47] plainB
theorem cut_sizes (s sep : List UInt8) : (Lib.cut s sep).1.length ≤ s.length ∧ (Lib.cut s sep).2.1.length ≤ s.length := by
  unfold Lib.cut
  split
  · simp; omega
  · simp
theorem size_list (s : ByteArray) : s.data.toList.length = s.size := Array.length_toList

theorem server_calls (w : World) (s : ByteArray) (hs : s.size < 4294967281) (hm : Mx w) :
    Calls Tryz.prog 53 #[.string s] w fun e w' => e = .returned (.bool (serverB s.data.toList)) ∧ Below w.heap.size w w' := by
  have hpos := hm.pos
  obtain ⟨m, hm⟩ := hm
  have HC := Lib.hid (Tryz.strings_Cut s ⟨#[58]⟩ m w hs hm)
  have hsz := cut_sizes s.data.toList [58]
  rw [size_list] at hsz
  obtain ⟨hz1, hz2⟩ := hsz
  have HSB := Lib.hid (show serverB s.data.toList = (allB (withB [46, 45] plainB) 50 (Lib.cut s.data.toList [58]).1 && (!(Lib.cut s.data.toList [58]).2.2 || allB digitB 5 (Lib.cut s.data.toList [58]).2.1)) from rfl)
  clear hm
  have e58 : (⟨#[58]⟩ : ByteArray).data.toList = [58] := rfl
  rw [e58] at HC
  clear e58
  obtain ⟨host, hhost⟩ : ∃ host, (Lib.cut s.data.toList [58]).1 = host := ⟨_, rfl⟩
  obtain ⟨port, hport⟩ : ∃ port, (Lib.cut s.data.toList [58]).2.1 = port := ⟨_, rfl⟩
  obtain ⟨two, htwo⟩ : ∃ two, (Lib.cut s.data.toList [58]).2.2 = two := ⟨_, rfl⟩
  rw [hhost, hport, htwo] at HC HSB
  rw [hhost] at hz1
  rw [hport] at hz2
  clear hhost hport htwo
  have h1 : (ofL host).size ≤ 9223372036854775807 := by rw [← size_list, ofL_list]; omega
  have h2 : (ofL port).size ≤ 9223372036854775807 := by rw [← size_list, ofL_list]; omega
  have HALL1 := Lib.hid (fun (W : World) (gf gm : Nat) (hf : W.cell? ⟨gf, 0, none⟩ = some (.func (.func 81) #[] #[])) (hm : W.cell? ⟨gm, 0, none⟩ = some (.string ⟨#[46, 45]⟩)) =>
    all_calls W (ofL host) 50 95 #[] #[.pointer (some ⟨gf, 0, none⟩), .pointer (some ⟨gm, 0, none⟩)] (withB [46, 45] plainB) h1 enter_with1 (fun c => with1_calls W gf gm ⟨#[46, 45]⟩ c hf hm))
  have HALL2 := Lib.hid (fun (W : World) => all_calls W (ofL port) 5 78 #[] #[] digitB h2 enter_digit (fun c => digit_calls W c))
  clear h1 h2 hz1 hz2
  go_enter Tryz.func53, Tryz.ntmps53
  go_wp2_with fail
  refine HC.out.mono ?_
  rintro e w1 ⟨rfl, n, rfl⟩
  have HW0 := Lib.hid (below_drewN' (Below.refl w.heap.size w) n)
  clear HC
  go_wp2_with fail
  refine (with_calls (w.drewN n) ⟨#[46, 45]⟩).mono ?_
  rintro e w2 ⟨rfl, rfl⟩
  have HW1 := Lib.hid (show Below w.heap.size w _ from (HW0.out.alloc HW0.out.size (.cells #[.string ⟨#[46, 45]⟩] 9)).alloc (by simp) (.cells #[.func (.func 81) #[] #[]] 176))
  go_wp2_with fail
  have hq1 : (((w.drewN n).alloc (.cells #[.string ⟨#[46, 45]⟩] 9)).alloc (.cells #[.func (.func 81) #[] #[]] 176)).cell? ⟨w.heap.size + 1, 0, none⟩ = some (.func (.func 81) #[] #[]) := cell_new _ _ _ _ _ _ (by simp)
  have hq2 : (((w.drewN n).alloc (.cells #[.string ⟨#[46, 45]⟩] 9)).alloc (.cells #[.func (.func 81) #[] #[]] 176)).cell? ⟨w.heap.size, 0, none⟩ = some (.string ⟨#[46, 45]⟩) := (cell_old _ _ _ (by simp)).trans (cell_new _ _ _ _ _ _ rfl)
  have HA1 := HALL1.out (((w.drewN n).alloc (.cells #[.string ⟨#[46, 45]⟩] 9)).alloc (.cells #[.func (.func 81) #[] #[]] 176)) (w.heap.size + 1) w.heap.size hq1 hq2
  clear hq1 hq2
  rw [ofL_list] at HA1
  refine HA1.mono ?_
  rintro e w3 ⟨rfl, rfl⟩
  clear HA1 HALL1 HW0
  have HA2 := HALL2.out (((w.drewN n).alloc (.cells #[.string ⟨#[46, 45]⟩] 9)).alloc (.cells #[.func (.func 81) #[] #[]] 176))
  rw [ofL_list] at HA2
  have HA3 := Lib.hid HA2
  clear HA2 HALL2
  generalize (((w.drewN n).alloc (.cells #[.string ⟨#[46, 45]⟩] 9)).alloc (.cells #[.func (.func 81) #[] #[]] 176)) = w3 at *
  generalize allB (withB [46, 45] plainB) 50 host = b1 at *
  generalize allB digitB 5 port = b2 at *
  have hcase : (b1 = true ∧ two = true) ∨ (b1 = true ∧ two = false) ∨ b1 = false := by cases b1 <;> cases two <;> simp
  rcases hcase with ⟨rfl, rfl⟩ | ⟨rfl, rfl⟩ | rfl
  · have HS2 := Lib.hid HSB.out
    go_wp2_with fail
    refine HA3.out.mono ?_
    rintro e w4 ⟨rfl, rfl⟩
    go_wp2_with fail
    go_ret
    exact ⟨by rw [HS2.out]; simp, HW1.out⟩
  · have HS2 := Lib.hid HSB.out
    go_wp2_with fail
    go_ret
    exact ⟨by rw [HS2.out]; simp, HW1.out⟩
  · have HS2 := Lib.hid HSB.out
    go_wp2_with fail
    go_ret
    exact ⟨by rw [HS2.out]; simp, HW1.out⟩
end Go.Proofs.YtgnoaeldmpbjmaaGreatDoor
/- ident, the end: a name's parts, whether it is of a kind. -/
namespace Go.Proofs.YtgnoaeldmpbjmaaGreatDoor
open Go.RowKit

def kindOf (c : UInt8) : Nat := if c.toNat = 33 then 1 else if c.toNat = 64 then 2 else if c.toNat = 35 then 3 else 0
def fitOf (c : UInt8) : UInt8 → Bool := if c.toNat = 33 then opaqueB else nameB
def splitB : List UInt8 → Option (Nat × List UInt8 × List UInt8)
  | [] => none
  | c :: r => if kindOf c = 0 then none else if (Lib.cut r [58]).2.2 && allB (fitOf c) 50 (Lib.cut r [58]).1 && serverB (Lib.cut r [58]).2.1 then some (kindOf c, (Lib.cut r [58]).1, (Lib.cut r [58]).2.1) else none
def codeV (c : Int) : Value := .iface 67 (.int .i64 c)
def splitV : Option (Nat × List UInt8 × List UInt8) → Value
  | some (k, p, h) => .tuple #[.int .i64 k, .string (ofL p), .string (ofL h), .nilIface]
  | none => .tuple #[.int .i64 0, .string ⟨#[]⟩, .string ⟨#[]⟩, codeV 7]

theorem split_calls (w : World) (s : ByteArray) (hs : s.size < 4294967281) (hm : Mx w) :
    Calls Tryz.prog 54 #[.string s] w fun e w' => e = .returned (splitV (splitB s.data.toList)) ∧ Below w.heap.size w w' := by
  by_cases h0 : s.size = 0
  · have hse : s = ⟨#[]⟩ := ByteArray.ext (Array.size_eq_zero_iff.1 h0)
    subst hse
    clear h0 hm
    go_enter Tryz.func54, Tryz.ntmps54
    go_wp2_with fail
    refine bodyPost_ret (results_tmp4 rfl _ _ _) rfl ?_
    exact ⟨rfl, Below.refl _ _⟩
  · have hpos : 0 < s.size := by omega
    have hw0 := hm.pos
    have hemp : s.data.toList.isEmpty = false := by
      cases h : s.data.toList with
      | nil => have := size_list s; rw [h] at this; simp at this; omega
      | cons a b => rfl
    have hne : ¬ s.toList = [] := by
      rw [ByteArray.toList_eq]
      intro e
      rw [e] at hemp
      cases hemp
    have hne2 : s.toList.isEmpty = false := by rw [ByteArray.toList_eq]; exact hemp
    have HM := Lib.hid hm
    clear hemp h0 hm
    go_enter Tryz.func54, Tryz.ntmps54
    go_wp2_with fail
    refine (with_calls w ⟨#[46, 95, 61, 45, 47]⟩).mono ?_
    rintro e w2 ⟨rfl, rfl⟩
    have HW1 := Lib.hid (show Below w.heap.size w _ from ((Below.refl w.heap.size w).alloc (Nat.le_refl _) (.cells #[.string ⟨#[46, 95, 61, 45, 47]⟩] 9)).alloc (by simp) (.cells #[.func (.func 81) #[] #[]] 176))
    have hW2 : Mx ((w.alloc (.cells #[.string ⟨#[46, 95, 61, 45, 47]⟩] 9)).alloc (.cells #[.func (.func 81) #[] #[]] 176)) := HM.out.below HW1.out hw0
    have hq1 : (((w.alloc (.cells #[.string ⟨#[46, 95, 61, 45, 47]⟩] 9)).alloc (.cells #[.func (.func 81) #[] #[]] 176))).cell? ⟨w.heap.size + 1, 0, none⟩ = some (.func (.func 81) #[] #[]) := cell_new _ _ _ _ _ _ (by simp)
    have hq2 : (((w.alloc (.cells #[.string ⟨#[46, 95, 61, 45, 47]⟩] 9)).alloc (.cells #[.func (.func 81) #[] #[]] 176))).cell? ⟨w.heap.size, 0, none⟩ = some (.string ⟨#[46, 95, 61, 45, 47]⟩) := (cell_old _ _ _ (by simp)).trans (cell_new _ _ _ _ _ _ rfl)
    have hw2s : 0 < (((w.alloc (.cells #[.string ⟨#[46, 95, 61, 45, 47]⟩] 9)).alloc (.cells #[.func (.func 81) #[] #[]] 176))).heap.size := by simp
    have HWS := Lib.hid (show w.heap.size ≤ (((w.alloc (.cells #[.string ⟨#[46, 95, 61, 45, 47]⟩] 9)).alloc (.cells #[.func (.func 81) #[] #[]] 176))).heap.size by simp; omega)
    -- the text's rest
    have hrest : (s.extract 1 s.size).data.toList = s.data.toList.tail := by
      simp [ByteArray.data_extract]
      rw [← List.drop_one]
      rw [List.take_of_length_le]
      have := size_list s
      simp at this ⊢
    have hrs : (s.extract 1 s.size).size < 4294967281 := by
      rw [← size_list, hrest]
      have := size_list s
      simp
      omega
    obtain ⟨c, r, hcr⟩ : ∃ c r, s.data.toList = c :: r := by
      cases h : s.data.toList with
      | nil => have := size_list s; rw [h] at this; simp at this; omega
      | cons a b => exact ⟨a, b, rfl⟩
    have hc0 : s[0] = c := by
      have h1 : s.data.toList[0]? = some s[0] := by
        have h2 : 0 < s.data.size := hpos
        rw [Array.getElem?_toList, Array.getElem?_eq_getElem h2]
        rfl
      rw [hcr] at h1
      simpa using h1.symm
    rw [hcr] at hrest
    have hrest2 : (s.extract 1 s.size).data.toList = r := hrest
    obtain ⟨m, hm⟩ := hW2
    have hC := Tryz.strings_Cut (s.extract 1 s.size) ⟨#[58]⟩ m ((w.alloc (.cells #[.string ⟨#[46, 95, 61, 45, 47]⟩] 9)).alloc (.cells #[.func (.func 81) #[] #[]] 176)) hrs hm
    have e58 : (⟨#[58]⟩ : ByteArray).data.toList = [58] := rfl
    rw [e58, hrest2] at hC
    have hz := cut_sizes r [58]
    have hrl : r.length < 4294967281 := by rw [← hrest2, size_list]; exact hrs
    have HSP := Lib.hid (show splitB s.data.toList = if kindOf c = 0 then none else if (Lib.cut r [58]).2.2 && allB (fitOf c) 50 (Lib.cut r [58]).1 && serverB (Lib.cut r [58]).2.1 then some (kindOf c, (Lib.cut r [58]).1, (Lib.cut r [58]).2.1) else none by rw [hcr]; rfl)
    obtain ⟨part, hpart⟩ : ∃ part, (Lib.cut r [58]).1 = part := ⟨_, rfl⟩
    obtain ⟨host, hhost⟩ : ∃ host, (Lib.cut r [58]).2.1 = host := ⟨_, rfl⟩
    obtain ⟨two, htwo⟩ : ∃ two, (Lib.cut r [58]).2.2 = two := ⟨_, rfl⟩
    rw [hpart, hhost, htwo] at hC HSP
    rw [hpart, hhost] at hz
    have hsp1 : (ofL part).size ≤ 9223372036854775807 := by rw [← size_list, ofL_list]; omega
    have hsp2 : (ofL host).size < 4294967281 := by rw [← size_list, ofL_list]; omega
    have HALL1 := Lib.hid (fun (W : World) (hf : W.cell? ⟨w.heap.size + 1, 0, none⟩ = some (.func (.func 81) #[] #[])) (hm : W.cell? ⟨w.heap.size, 0, none⟩ = some (.string ⟨#[46, 95, 61, 45, 47]⟩)) =>
      all_calls W (ofL part) 50 95 #[] #[.pointer (some ⟨w.heap.size + 1, 0, none⟩), .pointer (some ⟨w.heap.size, 0, none⟩)] nameB hsp1 enter_with1 (fun c => with1_calls W _ _ ⟨#[46, 95, 61, 45, 47]⟩ c hf hm))
    have HALL2 := Lib.hid (fun (W : World) => all_calls W (ofL part) 50 82 #[] #[] opaqueB hsp1 enter_opaque (fun c => opaque_calls W c))
    have HSV := Lib.hid (fun (W : World) (h : Mx W) => server_calls W (ofL host) hsp2 h)
    have HC := Lib.hid hC
    have HQ1 := Lib.hid hq1
    have HQ2 := Lib.hid hq2
    have HMX := Lib.hid (show Mx ((w.alloc (.cells #[.string ⟨#[46, 95, 61, 45, 47]⟩] 9)).alloc (.cells #[.func (.func 81) #[] #[]] 176)) from ⟨m, hm⟩)
    have HWS2 := Lib.hid hw2s
    clear hq1 hq2 hm hC hpart hhost htwo hz hrl hsp1 hsp2 hcr hrest hrest2 hrs hw2s e58
    obtain ⟨cn, hcn⟩ : ∃ cn, c.toNat = cn := ⟨_, rfl⟩
    have HKO := Lib.hid (show kindOf c = if cn = 33 then 1 else if cn = 64 then 2 else if cn = 35 then 3 else 0 by unfold kindOf; rw [hcn])
    have HFO := Lib.hid (show fitOf c = if cn = 33 then opaqueB else nameB by unfold fitOf; rw [hcn])
    have e0 : s[0].toNat = cn := by rw [hc0, hcn]
    clear hc0 hcn
    generalize hw2 : ((w.alloc (.cells #[.string ⟨#[46, 95, 61, 45, 47]⟩] 9)).alloc (.cells #[.func (.func 81) #[] #[]] 176)) = w2 at *
    have HW2 := Lib.hid hw2
    clear hw2
    have hcase : cn = 33 ∨ cn = 64 ∨ cn = 35 ∨ (cn ≠ 33 ∧ cn ≠ 64 ∧ cn ≠ 35) := by omega
    rcases hcase with rfl | rfl | rfl | ⟨n1, n2, n3⟩
    case inr.inr.inr =>
      have HK := Lib.hid (show kindOf c = 0 by rw [HKO.out]; simp [n1, n2, n3])
      have e1 : ((s[0].toNat : Int) == 33) = false := by rw [e0]; exact beq_eq_false_iff_ne.2 (by omega)
      have e2 : ((s[0].toNat : Int) == 64) = false := by rw [e0]; exact beq_eq_false_iff_ne.2 (by omega)
      have e3 : ((s[0].toNat : Int) == 35) = false := by rw [e0]; exact beq_eq_false_iff_ne.2 (by omega)
      clear e0 n1 n2 n3
      go_wp2_with fail
      refine bodyPost_ret (results_tmp4 rfl _ _ _) rfl ?_
      refine ⟨?_, HW1.out⟩
      rw [HSP.out, if_pos HK.out]
      rfl
    · have HK := Lib.hid (show kindOf c = 1 by rw [HKO.out]; rfl)
      have HF := Lib.hid (show fitOf c = opaqueB by rw [HFO.out]; rfl)
      have HSP2 := Lib.hid (show splitB s.data.toList = if two && allB opaqueB 50 part && serverB host then some (1, part, host) else none by rw [HSP.out, HK.out, HF.out]; rfl)
      have e1 : s[0].toNat = 33 := e0
      clear e0 HK HF HKO HFO HSP
      go_wp2_with fail
      refine HC.out.mono ?_
      rintro e w3 ⟨rfl, n, rfl⟩
      have HB3 := Lib.hid (below_drewN' HW1.out n)
      have HA1 := HALL2.out (w2.drewN n)
      rw [ofL_list] at HA1
      have HA := Lib.hid HA1
      have hS := HSV.out (w2.drewN n) HMX.out
      rw [ofL_list] at hS
      have HS := Lib.hid hS
      clear HA1 hS HALL1 HALL2 HSV HC
      cases two
      · have HSP3 := Lib.hid HSP2.out
        go_wp2_with fail
        refine bodyPost_ret (results_tmp4 rfl _ _ _) rfl ?_
        exact ⟨by rw [HSP3.out]; rfl, HB3.out⟩
      · generalize allB opaqueB 50 part = ab at *
        generalize serverB host = sb at *
        cases ab
        · have HSP3 := Lib.hid HSP2.out
          go_wp2_with fail
          refine HA.out.mono ?_
          rintro e w4 ⟨rfl, rfl⟩
          go_wp2_with fail
          refine bodyPost_ret (results_tmp4 rfl _ _ _) rfl ?_
          exact ⟨by rw [HSP3.out]; rfl, HB3.out⟩
        · cases sb
          · have HSP3 := Lib.hid HSP2.out
            go_wp2_with fail
            refine HA.out.mono ?_
            rintro e w4 ⟨rfl, rfl⟩
            go_wp2_with fail
            refine HS.out.mono ?_
            rintro e w5 ⟨rfl, hb5⟩
            have HB5 := Lib.hid (HB3.out.trans (hb5.mono HB3.out.size))
            clear hb5
            go_wp2_with fail
            refine bodyPost_ret (results_tmp4 rfl _ _ _) rfl ?_
            exact ⟨by rw [HSP3.out]; rfl, HB5.out⟩
          · have HSP3 := Lib.hid HSP2.out
            go_wp2_with fail
            refine HA.out.mono ?_
            rintro e w4 ⟨rfl, rfl⟩
            go_wp2_with fail
            refine HS.out.mono ?_
            rintro e w5 ⟨rfl, hb5⟩
            have HB5 := Lib.hid (HB3.out.trans (hb5.mono HB3.out.size))
            clear hb5
            go_wp2_with fail
            refine bodyPost_ret (results_tmp4 rfl _ _ _) rfl ?_
            exact ⟨by rw [HSP3.out]; rfl, HB5.out⟩
    · have HK := Lib.hid (show kindOf c = 2 by rw [HKO.out]; rfl)
      have HF := Lib.hid (show fitOf c = nameB by rw [HFO.out]; rfl)
      have HSP2 := Lib.hid (show splitB s.data.toList = if two && allB nameB 50 part && serverB host then some (2, part, host) else none by rw [HSP.out, HK.out, HF.out]; rfl)
      have e1 : s[0].toNat = 64 := e0
      clear e0 HK HF HKO HFO HSP
      go_wp2_with fail
      refine HC.out.mono ?_
      rintro e w3 ⟨rfl, n, rfl⟩
      have HB3 := Lib.hid (below_drewN' HW1.out n)
      have HA1 := HALL1.out (w2.drewN n) HQ1.out HQ2.out
      rw [ofL_list] at HA1
      have HA := Lib.hid HA1
      have hS := HSV.out (w2.drewN n) HMX.out
      rw [ofL_list] at hS
      have HS := Lib.hid hS
      clear HA1 hS HALL1 HALL2 HSV HC
      cases two
      · have HSP3 := Lib.hid HSP2.out
        go_wp2_with fail
        refine bodyPost_ret (results_tmp4 rfl _ _ _) rfl ?_
        exact ⟨by rw [HSP3.out]; rfl, HB3.out⟩
      · generalize allB nameB 50 part = ab at *
        generalize serverB host = sb at *
        cases ab
        · have HSP3 := Lib.hid HSP2.out
          go_wp2_with fail
          refine HA.out.mono ?_
          rintro e w4 ⟨rfl, rfl⟩
          go_wp2_with fail
          refine bodyPost_ret (results_tmp4 rfl _ _ _) rfl ?_
          exact ⟨by rw [HSP3.out]; rfl, HB3.out⟩
        · cases sb
          · have HSP3 := Lib.hid HSP2.out
            go_wp2_with fail
            refine HA.out.mono ?_
            rintro e w4 ⟨rfl, rfl⟩
            go_wp2_with fail
            refine HS.out.mono ?_
            rintro e w5 ⟨rfl, hb5⟩
            have HB5 := Lib.hid (HB3.out.trans (hb5.mono HB3.out.size))
            clear hb5
            go_wp2_with fail
            refine bodyPost_ret (results_tmp4 rfl _ _ _) rfl ?_
            exact ⟨by rw [HSP3.out]; rfl, HB5.out⟩
          · have HSP3 := Lib.hid HSP2.out
            go_wp2_with fail
            refine HA.out.mono ?_
            rintro e w4 ⟨rfl, rfl⟩
            go_wp2_with fail
            refine HS.out.mono ?_
            rintro e w5 ⟨rfl, hb5⟩
            have HB5 := Lib.hid (HB3.out.trans (hb5.mono HB3.out.size))
            clear hb5
            go_wp2_with fail
            refine bodyPost_ret (results_tmp4 rfl _ _ _) rfl ?_
            exact ⟨by rw [HSP3.out]; rfl, HB5.out⟩
    · have HK := Lib.hid (show kindOf c = 3 by rw [HKO.out]; rfl)
      have HF := Lib.hid (show fitOf c = nameB by rw [HFO.out]; rfl)
      have HSP2 := Lib.hid (show splitB s.data.toList = if two && allB nameB 50 part && serverB host then some (3, part, host) else none by rw [HSP.out, HK.out, HF.out]; rfl)
      have e1 : s[0].toNat = 35 := e0
      clear e0 HK HF HKO HFO HSP
      go_wp2_with fail
      refine HC.out.mono ?_
      rintro e w3 ⟨rfl, n, rfl⟩
      have HB3 := Lib.hid (below_drewN' HW1.out n)
      have HA1 := HALL1.out (w2.drewN n) HQ1.out HQ2.out
      rw [ofL_list] at HA1
      have HA := Lib.hid HA1
      have hS := HSV.out (w2.drewN n) HMX.out
      rw [ofL_list] at hS
      have HS := Lib.hid hS
      clear HA1 hS HALL1 HALL2 HSV HC
      cases two
      · have HSP3 := Lib.hid HSP2.out
        go_wp2_with fail
        refine bodyPost_ret (results_tmp4 rfl _ _ _) rfl ?_
        exact ⟨by rw [HSP3.out]; rfl, HB3.out⟩
      · generalize allB nameB 50 part = ab at *
        generalize serverB host = sb at *
        cases ab
        · have HSP3 := Lib.hid HSP2.out
          go_wp2_with fail
          refine HA.out.mono ?_
          rintro e w4 ⟨rfl, rfl⟩
          go_wp2_with fail
          refine bodyPost_ret (results_tmp4 rfl _ _ _) rfl ?_
          exact ⟨by rw [HSP3.out]; rfl, HB3.out⟩
        · cases sb
          · have HSP3 := Lib.hid HSP2.out
            go_wp2_with fail
            refine HA.out.mono ?_
            rintro e w4 ⟨rfl, rfl⟩
            go_wp2_with fail
            refine HS.out.mono ?_
            rintro e w5 ⟨rfl, hb5⟩
            have HB5 := Lib.hid (HB3.out.trans (hb5.mono HB3.out.size))
            clear hb5
            go_wp2_with fail
            refine bodyPost_ret (results_tmp4 rfl _ _ _) rfl ?_
            exact ⟨by rw [HSP3.out]; rfl, HB5.out⟩
          · have HSP3 := Lib.hid HSP2.out
            go_wp2_with fail
            refine HA.out.mono ?_
            rintro e w4 ⟨rfl, rfl⟩
            go_wp2_with fail
            refine HS.out.mono ?_
            rintro e w5 ⟨rfl, hb5⟩
            have HB5 := Lib.hid (HB3.out.trans (hb5.mono HB3.out.size))
            clear hb5
            go_wp2_with fail
            refine bodyPost_ret (results_tmp4 rfl _ _ _) rfl ?_
            exact ⟨by rw [HSP3.out]; rfl, HB5.out⟩
end Go.Proofs.YtgnoaeldmpbjmaaGreatDoor
/- ident.Is, at kinds other than an event's. -/
namespace Go.Proofs.YtgnoaeldmpbjmaaGreatDoor
open Go.RowKit

/-- Whether a text is a name of a kind (not an event's, not a server's). -/
def isB (k : Nat) (s : List UInt8) : Bool := match splitB s with
  | some (k', _, _) => k' == k
  | none => false
theorem is_calls (w : World) (k : Nat) (s : ByteArray) (hk : k < 4) (hs : s.size < 4294967281) (hm : Mx w) :
    Calls Tryz.prog 27 #[.int .i64 k, .string s] w fun e w' => e = .returned (.bool (isB k s.data.toList)) ∧ Below w.heap.size w w' := by
  have HS := Lib.hid (split_calls w s hs hm)
  have HR := Lib.hid (show isB k s.data.toList = match splitB s.data.toList with | some (k', _, _) => k' == k | none => false from rfl)
  have e4 : ((k : Int) == 4) = false := beq_eq_false_iff_ne.2 (by omega)
  have e5 : ((k : Int) == 5) = false := beq_eq_false_iff_ne.2 (by omega)
  clear hs hm
  go_enter Tryz.func27, Tryz.ntmps27
  go_wp2_with fail
  refine HS.out.mono ?_
  rintro e w1 ⟨rfl, hb⟩
  have HB := Lib.hid hb
  clear hb HS
  generalize splitB s.data.toList = x at *
  cases x with
  | none =>
    have HR2 := Lib.hid HR.out
    unfold splitV codeV
    go_wp2_with fail
    go_ret
    exact ⟨by rw [HR2.out]; rfl, HB.out⟩
  | some x =>
    obtain ⟨k', p, h⟩ := x
    have HR2 := Lib.hid HR.out
    unfold splitV
    go_wp2_with fail
    go_ret
    refine ⟨?_, HB.out⟩
    rw [HR2.out]
    simp
    rw [Bool.eq_iff_iff]
    simp
    omega
end Go.Proofs.YtgnoaeldmpbjmaaGreatDoor
/- ident: a name's server; whether a text is a server's name. -/
namespace Go.Proofs.YtgnoaeldmpbjmaaGreatDoor
open Go.RowKit

def ofB (s : List UInt8) : List UInt8 := match splitB s with
  | some (_, _, h) => h
  | none => []
theorem of_calls (w : World) (s : ByteArray) (hs : s.size < 4294967281) (hm : Mx w) :
    Calls Tryz.prog 48 #[.string s] w fun e w' => e = .returned (.string (ofL (ofB s.data.toList))) ∧ Below w.heap.size w w' := by
  have HS := Lib.hid (split_calls w s hs hm)
  have HR := Lib.hid (show ofB s.data.toList = match splitB s.data.toList with | some (_, _, h) => h | none => [] from rfl)
  clear hm
  go_enter Tryz.func48, Tryz.ntmps48
  go_wp2_with fail
  refine HS.out.mono ?_
  rintro e w1 ⟨rfl, hb⟩
  have HB := Lib.hid hb
  clear hb HS
  generalize splitB s.data.toList = x at *
  match x with
  | none =>
    unfold splitV
    go_wp2_with fail
    go_ret
    exact ⟨by rw [HR.out]; rfl, HB.out⟩
  | some (k, p, h) =>
    unfold splitV
    go_wp2_with fail
    go_ret
    exact ⟨by rw [HR.out]; rfl, HB.out⟩
theorem isServer_calls (w : World) (s : ByteArray) (hs : s.size < 4294967281) (hm : Mx w) :
    Calls Tryz.prog 27 #[.int .i64 5, .string s] w fun e w' => e = .returned (.bool (serverB s.data.toList)) ∧ Below w.heap.size w w' := by
  have HS := Lib.hid (server_calls w s hs hm)
  clear hm
  go_enter Tryz.func27, Tryz.ntmps27
  go_wp2_with fail
  refine HS.out.mono ?_
  rintro e w1 ⟨rfl, hb⟩
  have HB := Lib.hid hb
  clear hb HS
  go_wp2_with fail
  go_ret
  exact ⟨rfl, HB.out⟩
end Go.Proofs.YtgnoaeldmpbjmaaGreatDoor
/- The document's errors; Tell: what an error says. -/
set_option linter.unusedVariables false
set_option linter.unusedSimpArgs false
namespace Go.Proofs.YtgnoaeldmpbjmaaGreatDoor
open Go.RowKit

/-- The fields about an error, each with / ahead. -/
def pathL (p : List ByteArray) : List UInt8 := p.flatMap fun f => 47 :: f.data.toList
abbrev eCells : Er → Array Value
  | none => #[.int .i64 0, .int .i64 (-1), .string ⟨#[]⟩]
  | some (p, c) => #[.int .i64 c, .int .i64 (-1), .string (ofL (pathL p))]
abbrev erV (x : Er) : Value := .agg (eCells x)
theorem res_E' {fn : Func} {p : Tmp} (h : fn.results = #[.cell p 36]) (tmps : Array Value) (w : World) (g : Nat) (cs : Array Value) (hp : tmps.getD p undef = .pointer (some ⟨g, 0, none⟩))
    (hg : w.heap[g]? = some (.cells cs 36 (0, 0))) (hs : cs.size = 3) : (results fn tmps).run Tryz.prog w = .ok (.agg cs) w :=
  results_cell_row h tmps w g 36 cs (0, 0) _ hp hg Tryz.underlying36 rfl (by rw [hs]; kernel_rfl)
theorem rnone_calls (w : World) : Calls Tryz.prog 31 #[] w fun e w' => e = .returned (erV none) ∧ Below w.heap.size w w' := by
  go_enter Tryz.func31, Tryz.ntmps31
  go_wp2_with fail
  refine bodyPost_ret (res_E' rfl _ _ w.heap.size #[.int .i64 0, .int .i64 (-1), .string ⟨#[]⟩] rfl (heap_new_at w _ _ rfl) rfl) rfl ?_
  exact ⟨rfl, (Below.refl _ _).alloc (Nat.le_refl _) _⟩
theorem rerr_calls (w : World) (c : Int) : Calls Tryz.prog 20 #[.int .i64 c] w fun e w' => e = .returned (erV (some ([], c))) ∧ Below w.heap.size w w' := by
  go_enter Tryz.func20, Tryz.ntmps20
  go_wp2_with fail
  refine bodyPost_ret (res_E' rfl _ _ w.heap.size #[.int .i64 c, .int .i64 (-1), .string ⟨#[]⟩] rfl (heap_new_at w _ _ rfl) rfl) rfl ?_
  exact ⟨rfl, (Below.refl _ _).alloc (Nat.le_refl _) _⟩
theorem ba_eq {a b : ByteArray} (h : a.data.toList = b.data.toList) : a = b := ByteArray.ext (Array.ext' h)
theorem path_in (f : ByteArray) (p : List ByteArray) : (⟨#[47]⟩ ++ f) ++ ofL (pathL p) = ofL (pathL (f :: p)) := by
  apply ba_eq
  simp [pathL, ofL]
theorem path_size (p : List ByteArray) : (ofL (pathL p)).size = (pathL p).length := by rw [← size_list, ofL_list]
theorem rin01_calls (w : World) (f : ByteArray) (p : List ByteArray) (c : Int) (hc : (c == 0) = false) (h1 : f.size ≤ 1000000) (h2 : (pathL p).length ≤ 1000000000) :
    Calls Tryz.prog 30 #[.string f, erV (some (p, c))] w fun e w' => e = .returned (erV (some (f :: p, c))) ∧ Below w.heap.size w w' := by
  have HP := Lib.hid (path_in f p)
  have hs : (ofL (pathL p)).size ≤ 1000000000 := by rw [path_size]; exact h2
  simp only [erV, eCells]
  generalize ofL (pathL p) = t at *
  generalize ofL (pathL (f :: p)) = u at *
  have hz : ¬ 9223372036854775807 < 1 + f.size + t.size := by omega
  clear h2
  go_enter Tryz.func30, Tryz.ntmps30
  go_wp2_with fail
  refine bodyPost_ret (res_E' rfl _ _ (w.heap.size + 1) #[.int .i64 c, .int .i64 (-1), .string (⟨#[47]⟩ ++ f ++ t)] rfl (heap_new_at _ _ _ (World.size_alloc _ _).symm) rfl) rfl ?_
  exact ⟨by rw [HP.out], ((Below.refl _ _).alloc (Nat.le_refl _) _).alloc (by simp) _⟩

theorem row3_heap {w : World} {g E : Nat} {cs : Array Value} {a b c : Value} (h : w.heap[g]? = some (.cells cs E (0, 0))) (hs : cs.size = 3) :
    (((w.setCell ⟨g, 0, none⟩ a).setCell ⟨g, 1, none⟩ b).setCell ⟨g, 2, none⟩ c).heap[g]? = some (.cells #[a, b, c] E (0, 0)) := by
  rw [setCell_heap_at (setCell_heap_at (setCell_heap_at h))]
  obtain ⟨l⟩ := cs
  match l, hs with
  | [_, _, _], _ => rfl
theorem row3_below {w : World} {B g : Nat} {a b c : Value} {w0 : World} (h : Below B w0 w) (hB : B ≤ w0.heap.size) (hg : B ≤ g) : Below B w0 (((w.setCell ⟨g, 0, none⟩ a).setCell ⟨g, 1, none⟩ b).setCell ⟨g, 2, none⟩ c) :=
  h.trans (Fr.to_below (S := fun i => i = g) (((Fr.setCell (S := fun i => i = g) w ⟨g, 0, none⟩ a rfl).trans (Fr.setCell (S := fun i => i = g) _ ⟨g, 1, none⟩ b rfl)).trans (Fr.setCell (S := fun i => i = g) _ ⟨g, 2, none⟩ c rfl)) (Nat.le_trans hB h.size) (fun k hk e => by omega))
abbrev EZ : Array Value := #[.int .i64 0, .int .i64 0, .string ⟨#[]⟩]
set_option maxRecDepth 100000 in
set_option maxHeartbeats 4000000 in
theorem tell_nil (w : World) : Calls Tryz.prog 17 #[.nilIface] w fun e w' => e = .returned (erV none) ∧ Below w.heap.size w w' := by
  go_enter Tryz.func17, Tryz.ntmps17
  go_wp2_with fail
  refine (rnone_calls _).mono ?_
  rintro e w1 ⟨rfl, hb⟩
  have hr : w1.heap[w.heap.size]? = some (.cells EZ 36 (0, 0)) := (hb.block _ (by simp)).trans (heap_new_at w _ _ rfl)
  have HB := Lib.hid (((Below.refl w.heap.size w).alloc (Nat.le_refl _) (.cells EZ 36)).trans (hb.mono (by simp)))
  have hlt := blk_lt hr
  have k0 : w1.cell? ⟨w.heap.size, 0, none⟩ = some (.int .i64 0) := cell_at hr rfl
  have k1 : w1.cell? ⟨w.heap.size, 1, none⟩ = some (.int .i64 0) := cell_at hr rfl
  have k2 : w1.cell? ⟨w.heap.size, 2, none⟩ = some (.string ⟨#[]⟩) := cell_at hr rfl
  have kz : ∀ j, w1.frozen? ⟨w.heap.size, j, none⟩ = false := fun j => frozen_at hr
  have HR := Lib.hid hr
  clear hr hb
  simp only [erV, eCells]
  go_wp2_with fail
  refine bodyPost_ret (res_E' rfl _ _ w.heap.size #[.int .i64 0, .int .i64 (-1), .string ⟨#[]⟩] rfl ((heap_old_at _ _ _ (by simpa using hlt)).trans (row3_heap HR.out rfl)) rfl) rfl ?_
  exact ⟨rfl, (row3_below HB.out (Nat.le_refl _) (Nat.le_refl _)).alloc (by simp; omega) _⟩
end Go.Proofs.YtgnoaeldmpbjmaaGreatDoor
/- Tell: of an error that is one: its code, the fields about it. -/
set_option linter.unusedVariables false
set_option linter.unusedSimpArgs false
namespace Go.Proofs.YtgnoaeldmpbjmaaGreatDoor
open Go.RowKit

structure TellS (w : World) (b2 b3 fb : Nat) (c : Int) (p1 : List ByteArray) (wr : World) : Prop where
  e : wr.heap[b3]? = some (.cells #[.int .i64 c, .int .i64 (-1), .string (ofL (pathL p1))] 36 (0, 0))
  r : wr.heap[b2]? = some (.cells EZ 36 (0, 0))
  v : ∃ old, Var wr fb 108 old
  b : Below w.heap.size w wr
theorem path_app (p q : List ByteArray) : pathL (p ++ q) = pathL p ++ pathL q := by simp [pathL]
theorem path_on (p : List ByteArray) (f : ByteArray) : ofL (pathL p) ++ (⟨#[47]⟩ ++ f) = ofL (pathL (p ++ [f])) := by
  apply ba_eq
  rw [path_app]
  simp [pathL, ofL]
set_option maxRecDepth 100000 in
set_option maxHeartbeats 8000000 in
theorem tell_flt (w : World) (Q : Nat → Prop) (v : Value) (p : List ByteArray) (c : Int) (hf : Flt w Q v p c) (het : Et w) (hp : (pathL p).length ≤ 1000000) :
    Calls Tryz.prog 17 #[v] w fun e w' => e = .returned (erV (some (p, c))) ∧ Below w.heap.size w w' := by
  obtain ⟨t0, u0, hv0⟩ := hf.shape
  subst hv0
  have HF := Lib.hid hf
  have HET := Lib.hid het
  have HEP := Lib.hid het.pos
  have HP := Lib.hid hp
  clear hf het hp
  go_enter Tryz.func17, Tryz.ntmps17
  go_wp2_with fail
  refine (rnone_calls _).mono ?_
  rintro e w1 ⟨rfl, hb⟩
  have hr : w1.heap[w.heap.size]? = some (.cells EZ 36 (0, 0)) := (hb.block _ (by simp)).trans (heap_new_at w _ _ rfl)
  have HB := Lib.hid (((Below.refl w.heap.size w).alloc (Nat.le_refl _) (.cells EZ 36)).trans (hb.mono (by simp)))
  have hlt := blk_lt hr
  have HR := Lib.hid hr
  clear hr hb
  simp only [erV, eCells]
  go_wp2_with fail
  have hbW2 : Below w.heap.size w ((w1.alloc (.cells #[.int .i64 (-1), .int .i64 (-1), .string ⟨#[]⟩] 36)).alloc (.cells #[.int .i64 0] 67)) := (HB.out.alloc HB.out.size _).alloc (by simp; omega) _
  refine (As_code ((w1.alloc (.cells #[.int .i64 (-1), .int .i64 (-1), .string ⟨#[]⟩] 36)).alloc (.cells #[.int .i64 0] 67)) (w1.heap.size + 1) Q _ p c (.int .i64 0) (HF.out.same (fun g hg _ => hbW2.block g hg)) (heap_new_at _ _ _ (by simp)) (HET.out.below hbW2 HEP.out)).mono ?_
  rintro e w3 ⟨rfl, hv, hfr⟩
  have he3 : w3.heap[w1.heap.size]? = some (.cells #[.int .i64 (-1), .int .i64 (-1), .string ⟨#[]⟩] 36 (0, 0)) := (hfr.block _ (by simp; omega) (by show ¬ w1.heap.size = w1.heap.size + 1; omega)).trans ((heap_old_at _ _ _ (by simp)).trans (heap_new_at w1 _ _ rfl))
  have hr3 : w3.heap[w.heap.size]? = some (.cells EZ 36 (0, 0)) := (hfr.block _ (by simp; omega) (by show ¬ w.heap.size = w1.heap.size + 1; omega)).trans ((heap_old_at _ _ _ (by simp; omega)).trans ((heap_old_at _ _ _ hlt).trans HR.out))
  have hb3 : Below w.heap.size w w3 := hbW2.trans (hfr.to_below (by simp; omega) (fun k hk e => by omega))
  have h3lt := blk_lt he3
  have kc : w3.cell? ⟨w1.heap.size + 1, 0, none⟩ = some (.int .i64 c) := cell_at hv rfl
  have ke := cell_at (j := 0) he3 rfl
  have kz := frozen_at (j := 0) he3
  have HE3 := Lib.hid he3
  have HR3 := Lib.hid hr3
  have HB3 := Lib.hid hb3
  have HW1 := Lib.hid HB.out.size
  clear hbW2 hv hfr he3 hr3 hb3 HR HB
  go_wp2_with fail
  have hS : TellS w w.heap.size w1.heap.size w3.heap.size c [] ((w3.setCell ⟨w1.heap.size, 0, none⟩ (.int .i64 c)).alloc (.cells #[.pointer none] 108)) := by
    refine ⟨(heap_old_at _ _ _ (by simpa using h3lt)).trans (setCell_heap_at HE3.out), (heap_old_at _ _ _ (by simp; omega)).trans ((Below.heap_setCell _ _ _ _ (by show w.heap.size ≠ w1.heap.size; omega)).trans HR3.out), ⟨.pointer none, heap_new_at _ _ _ (by simp)⟩, ?_⟩
    exact (HB3.out.trans (Fr.to_below (S := fun i => i = w1.heap.size) (Fr.setCell w3 ⟨w1.heap.size, 0, none⟩ (.int .i64 c) rfl) HB3.out.size (fun k hk e => by omega))).alloc (by simp; omega) _
  have HS := Lib.hid hS
  clear hS kc ke kz HE3 HR3 HB3
  go_loopw [0] (fun v wr => ∃ p1 p2, p1 ++ p2 = p ∧ Flt w Q v p2 c ∧ TellS w w.heap.size w1.heap.size w3.heap.size c p1 wr) (fun v _ => fdepth w p.length v)
  case atStart => exact ⟨[], p, rfl, HF.out, HS.out⟩
  case round =>
    obtain ⟨p1, p2, hpp, hf, hs⟩ := hrel
    have HPP := Lib.hid hpp
    have HD := Lib.hid (fdepth_of hf p.length (by rw [← hpp]; simp))
    obtain ⟨old, hv⟩ := hs.v
    have HS1 := Lib.hid hs
    have hwr := blk_lt hs.e
    have hwv := blk_lt hv
    cases hf with
    | code =>
      have HV := Lib.hid hv
      clear hpp hs hv HS HF
      go_wp2_with fail
      refine (As_miss wr w3.heap.size c old HV.out (HET.out.below HS1.out.b HEP.out)).mono ?_
      rintro e w4 ⟨rfl, hb⟩
      have hE := (hb.block _ hwr).trans HS1.out.e
      have hR := (hb.block _ (blk_lt HS1.out.r)).trans HS1.out.r
      have hV := (hb.block _ hwv).trans HV.out
      have HB4 := Lib.hid (HS1.out.b.trans (hb.mono HS1.out.b.size))
      have e0 : w4.cell? ⟨w1.heap.size, 0, none⟩ = some (.int .i64 c) := cell_at hE rfl
      have e1 : w4.cell? ⟨w1.heap.size, 1, none⟩ = some (.int .i64 (-1)) := cell_at hE rfl
      have e2 : w4.cell? ⟨w1.heap.size, 2, none⟩ = some (.string (ofL (pathL p1))) := cell_at hE rfl
      have r0 : w4.cell? ⟨w.heap.size, 0, none⟩ = some (.int .i64 0) := cell_at hR rfl
      have r1 : w4.cell? ⟨w.heap.size, 1, none⟩ = some (.int .i64 0) := cell_at hR rfl
      have r2 : w4.cell? ⟨w.heap.size, 2, none⟩ = some (.string ⟨#[]⟩) := cell_at hR rfl
      have rz : ∀ j, w4.frozen? ⟨w.heap.size, j, none⟩ = false := fun j => frozen_at hR
      have v0 : w4.cell? ⟨w3.heap.size, 0, none⟩ = some old := cell_at hV rfl
      have HR4 := Lib.hid hR
      clear hE hR hV hb
      go_wp2_with fail
      refine bodyPost_ret (res_E' rfl _ _ w.heap.size #[.int .i64 c, .int .i64 (-1), .string (ofL (pathL p1))] rfl (row3_heap HR4.out rfl) rfl) rfl ?_
      refine ⟨?_, row3_below HB4.out (Nat.le_refl _) (Nat.le_refl _)⟩
      have hpe : p1 = p := by rw [← HPP.out]; simp
      rw [hpe]
    | fault g f v' p'' _ hg hQ h =>
      have HG := Lib.hid hg
      have HH := Lib.hid h
      have HV := Lib.hid hv
      have hgl := blk_lt hg
      obtain ⟨t1, u1, hv1⟩ := h.shape
      subst hv1
      have hsz : (ofL (pathL p1)).size + (1 + f.size) ≤ 1000000 := by
        have h1 := HP.out
        rw [← hpp, path_app] at h1
        rw [path_size]
        simp [pathL] at h1 ⊢
        have h2 := size_list f
        simp at h2
        omega
      have HST := Lib.hid (path_on p1 f)
      clear hpp hs hv HS HF hg h hQ
      go_wp2_with fail
      refine (As_fault wr w3.heap.size ⟨g, 0, none⟩ old HV.out (HET.out.below HS1.out.b HEP.out)).mono ?_
      rintro e w4 ⟨rfl, hv4, hfr⟩
      have hE := (hfr.block _ hwr (by show ¬ w1.heap.size = w3.heap.size; omega)).trans HS1.out.e
      have hR := (hfr.block _ (blk_lt HS1.out.r) (by show ¬ w.heap.size = w3.heap.size; omega)).trans HS1.out.r
      have hb4 : Below w.heap.size w w4 := HS1.out.b.trans (hfr.to_below HS1.out.b.size (fun k hk e => by omega))
      have hG := (hb4.block _ hgl).trans HG.out
      have e1 : w4.cell? ⟨w1.heap.size, 1, none⟩ = some (.int .i64 (-1)) := cell_at hE rfl
      have e2 : w4.cell? ⟨w1.heap.size, 2, none⟩ = some (.string (ofL (pathL p1))) := cell_at hE rfl
      have ez : ∀ j, w4.frozen? ⟨w1.heap.size, j, none⟩ = false := fun j => frozen_at hE
      have v0 : w4.cell? ⟨w3.heap.size, 0, none⟩ = some (.pointer (some ⟨g, 0, none⟩)) := cell_at hv4 rfl
      have g0 : w4.cell? ⟨g, 0, none⟩ = some (.int .i64 (-1)) := cell_at hG rfl
      have g1 : w4.cell? ⟨g, 1, none⟩ = some (.string f) := cell_at hG rfl
      have g2 : w4.cell? ⟨g, 2, none⟩ = some (.iface t1 u1) := cell_at hG rfl
      have HE4 := Lib.hid hE
      have HR4 := Lib.hid hR
      have HV4 := Lib.hid hv4
      have HB4 := Lib.hid hb4
      clear hE hR hb4 hG hv4 hfr
      have hz : ¬ 9223372036854775807 < 1 + f.size := by omega
      have hz2 : ¬ 9223372036854775807 < (ofL (pathL p1)).size + (1 + f.size) := by omega
      have HSZ := Lib.hid hsz
      clear hsz
      have hfin : TellS w w.heap.size w1.heap.size w3.heap.size c (p1 ++ [f]) ((w4.setCell ⟨w1.heap.size, 2, none⟩ (.string (ofL (pathL p1) ++ (⟨#[47]⟩ ++ f)))).drew) := ⟨by
          show (w4.setCell _ _).heap[w1.heap.size]? = _
          rw [setCell_heap_at HE4.out, HST.out]; rfl,
        (Below.heap_setCell _ _ _ _ (by show w.heap.size ≠ w1.heap.size; omega)).trans HR4.out,
        ⟨_, (Below.heap_setCell _ _ _ _ (by show w3.heap.size ≠ w1.heap.size; omega)).trans HV4.out⟩,
        (HB4.out.trans (Fr.to_below (S := fun i => i = w1.heap.size) (Fr.setCell w4 ⟨w1.heap.size, 2, none⟩ _ rfl) HB4.out.size (fun k hk e => by omega))).drew⟩
      have HFIN := Lib.hid hfin
      have hmeas : fdepth w p.length (.iface t1 u1) < fdepth w p.length (.iface 108 (.pointer (some ⟨g, 0, none⟩))) := by
        have h1 := HPP.out
        have h2 : p''.length + 1 ≤ p.length := by rw [← h1]; simp
        rw [HD.out, fdepth_of HH.out p.length (by omega)]
        simp
      have HME := Lib.hid hmeas
      clear hfin hmeas
      have hp2 : (p1 ++ [f]) ++ p'' = p := by rw [← HPP.out]; simp
      have HP2 := Lib.hid hp2
      clear hp2
      by_cases hfe : f.size = 0
      · have hfe2 : f = ⟨#[]⟩ := ByteArray.ext (Array.size_eq_zero_iff.1 hfe)
        subst hfe2
        clear hfe
        go_wp2_with fail
        go_region
        all_goals (go_wp2_with fail)
        all_goals exact ⟨⟨_, p'', HP2.out, HH.out, HFIN.out⟩, HME.out⟩
      · have hemp : f.data.toList.isEmpty = false := by
          cases h : f.data.toList with
          | nil => have := size_list f; rw [h] at this; simp at this; omega
          | cons a b => rfl
        have hne : ¬ f.toList = [] := by
          rw [ByteArray.toList_eq]
          intro e
          rw [e] at hemp
          cases hemp
        have hne2 : f.toList.isEmpty = false := by rw [ByteArray.toList_eq]; exact hemp
        clear hemp hfe
        go_wp2_with fail
        go_region
        all_goals (go_wp2_with fail)
        all_goals exact ⟨⟨_, p'', HP2.out, HH.out, HFIN.out⟩, HME.out⟩
end Go.Proofs.YtgnoaeldmpbjmaaGreatDoor
