/- The program's values (value.Value, value.Member) in memory. No walk. -/
import Derived.Test.YtiehdfokcnphdaaGreatDoorSl
namespace Go.Proofs.YtiehdfokcnphdaaGreatDoor
open Go.RowKit

/-- A value.Value's six cells. -/
structure V6 where
  kind : Int
  yes : Bool
  int : Int
  text : ByteArray
  list : Sl
  map : Sl
abbrev V6.cells (x : V6) : Array Value := #[.int .i64 x.kind, .bool x.yes, .int .i64 x.int, .string x.text, .slice x.list.a x.list.n x.list.c, .slice x.map.a x.map.n x.map.c]
structure Mb where
  key : ByteArray
  v : V6
abbrev Mb.cells (m : Mb) : Array Value := #[.string m.key, .int .i64 m.v.kind, .bool m.v.yes, .int .i64 m.v.int, .string m.v.text, .slice m.v.list.a m.v.list.n m.v.list.c, .slice m.v.map.a m.v.map.n m.v.map.c]

/-- What a value is, whatever memory. -/
inductive V where
  | mk (kind : Int) (yes : Bool) (int : Int) (text : ByteArray) (list : List V) (map : List (ByteArray × V)) : V

abbrev vcells (l : List V6) : List (List Value) := l.map fun x => x.cells.toList
abbrev mcells (l : List Mb) : List (List Value) := l.map fun x => x.cells.toList

/-- Six cells of w tell a value; all that it reaches lies in blocks of which P holds. -/
inductive RepV (w : World) (P : Nat → Prop) : V6 → V → Prop where
  | mk (x : V6) (L : List V) (M : List (ByteArray × V)) (xs : List V6) (ms : List Mb)
    (hL : RowOf w P 44 6 x.list (vcells xs)) (hM : RowOf w P 48 7 x.map (mcells ms))
    (lenL : xs.length = L.length) (lenM : ms.length = M.length)
    (elL : ∀ (i : Nat) (y : V6) (v : V), xs[i]? = some y → L[i]? = some v → RepV w P y v)
    (keyM : ∀ (i : Nat) (m : Mb) (kv : ByteArray × V), ms[i]? = some m → M[i]? = some kv → m.key = kv.1)
    (elM : ∀ (i : Nat) (m : Mb) (kv : ByteArray × V), ms[i]? = some m → M[i]? = some kv → RepV w P m.v kv.2) :
    RepV w P x (.mk x.kind x.yes x.int x.text L M)

theorem RepV.same {w w' : World} {P : Nat → Prop} {x : V6} {v : V} (h : RepV w P x v) (hs : w.heap.size ≤ w'.heap.size) (hb : ∀ g, g < w.heap.size → P g → w'.heap[g]? = w.heap[g]?) : RepV w' P x v := by
  induction h with
  | mk x L M xs ms hL hM lenL lenM elL keyM elM ih1 ih2 => exact .mk x L M xs ms (hL.same hs hb) (hM.same hs hb) lenL lenM ih1 keyM ih2
theorem RepV.mono {w : World} {P Q : Nat → Prop} {x : V6} {v : V} (h : RepV w P x v) (hq : ∀ g, g < w.heap.size → P g → Q g) : RepV w Q x v := by
  induction h with
  | mk x L M xs ms hL hM lenL lenM elL keyM elM ih1 ih2 => exact .mk x L M xs ms (hL.mono hq) (hM.mono hq) lenL lenM ih1 keyM ih2
theorem RepV.under {B : Nat} {w w' : World} {P : Nat → Prop} {x : V6} {v : V} (h : RepV w P x v) (hb : Below B w w') (hs : ∀ g, P g → g < B) : RepV w' P x v := h.same hb.size (fun g _ hp => hb.block g (hs g hp))
/-- A value of no parts. -/
theorem RepV.leaf (w : World) (P : Nat → Prop) (k : Int) (y : Bool) (i : Int) (t : ByteArray) : RepV w P ⟨k, y, i, t, ⟨none, 0, 0⟩, ⟨none, 0, 0⟩⟩ (.mk k y i t [] []) :=
  .mk ⟨k, y, i, t, ⟨none, 0, 0⟩, ⟨none, 0, 0⟩⟩ [] [] [] [] ⟨rfl, by simp, .inl ⟨rfl, rfl⟩⟩ ⟨rfl, by simp, .inl ⟨rfl, rfl⟩⟩ rfl rfl (by simp) (by simp) (by simp)

theorem vcells_len (l : List V6) : ∀ c ∈ vcells l, c.length = 6 := by
  intro c hc
  obtain ⟨x, _, rfl⟩ := List.mem_map.1 hc
  rfl
theorem mcells_len (l : List Mb) : ∀ c ∈ mcells l, c.length = 7 := by
  intro c hc
  obtain ⟨x, _, rfl⟩ := List.mem_map.1 hc
  rfl
theorem vcells_one (l : List V6) : ∀ u ∈ (vcells l).flatten, u.oneCell' = true := by
  intro u hu
  obtain ⟨c, hc, hu⟩ := List.mem_flatten.1 hu
  obtain ⟨x, _, rfl⟩ := List.mem_map.1 hc
  simp at hu
  rcases hu with rfl | rfl | rfl | rfl | rfl | rfl <;> rfl
theorem mcells_one (l : List Mb) : ∀ u ∈ (mcells l).flatten, u.oneCell' = true := by
  intro u hu
  obtain ⟨c, hc, hu⟩ := List.mem_flatten.1 hu
  obtain ⟨x, _, rfl⟩ := List.mem_map.1 hc
  simp at hu
  rcases hu with rfl | rfl | rfl | rfl | rfl | rfl | rfl <;> rfl
/-- The cells of a row, in a line. -/
theorem Rw.flat {w : World} {E r cap sz : Nat} {l : List (List Value)} (h : Rw w E r cap sz l) (hz : 0 < sz) : ∀ j u, l.flatten[j]? = some u → w.cell? ⟨r, j, none⟩ = some u := by
  intro j u hj
  have hlen : ∀ c ∈ l, c.length = sz := by
    intro c hc
    obtain ⟨i, hi⟩ := List.mem_iff_getElem?.1 hc
    obtain ⟨_, _, _, _, h4⟩ := h
    exact (h4 i c hi).1
  have hjl := (List.getElem?_eq_some_iff.1 hj).1
  rw [flatten_length l hlen] at hjl
  have hi : j / sz < l.length := Nat.div_lt_of_lt_mul (by rw [Nat.mul_comm]; exact hjl)
  have hd : j % sz < sz := Nat.mod_lt _ hz
  have hg : l[j / sz]? = some l[j / sz] := List.getElem?_eq_getElem hi
  have := flatten_get l hlen (j / sz) (j % sz) _ hg hd
  have he : j / sz * sz + j % sz = j := Nat.div_add_mod' j sz
  rw [he, hj] at this
  have := h.cell hg this.symm
  rw [he] at this
  exact this
end Go.Proofs.YtiehdfokcnphdaaGreatDoor
