/- Chapter 9's statements, going on: the document's User and Needs, the levels made real. -/
import Derived.Test.YtiehdfokcnphdaaGreatDoorPx
namespace Go.Proofs.YtiehdfokcnphdaaGreatDoor
open Go.RowKit

/-- The document's levels, as they come in: seven numbers, two lists. -/
structure L9 where
  n0 : Int
  n1 : Int
  n2 : Int
  n3 : Int
  n4 : Int
  n5 : Int
  n6 : Int
  ev : Sl
  us : Sl
abbrev L9.cells (x : L9) : Array Value := #[.int .i64 x.n0, .int .i64 x.n1, .int .i64 x.n2, .int .i64 x.n3, .int .i64 x.n4, .int .i64 x.n5, .int .i64 x.n6, .slice x.ev.a x.ev.n x.ev.c, .slice x.us.a x.us.n x.us.c]
theorem ruser_calls (w : World) (x : L9) (l : List Nm) (name : ByteArray) (h : InN w x.us.a x.us.n l) :
    Calls Tryz.prog 22 #[.agg x.cells, .string name] w fun e w' => e = .returned (.int .i64 ((findN l name).getD x.n6)) ∧ Below w.heap.size w w' := by
  have hb0 : Below w.heap.size w (w.alloc (.cells x.cells 25)) := (Below.refl _ _).alloc (Nat.le_refl _) _
  have hlen : x.us.n = l.length := h.1
  have hF := rfind_calls (w.alloc (.cells x.cells 25)) x.us.a x.us.c l name (by have := h.below hb0 rfl; rw [hlen] at this; exact this)
  rw [← hlen] at hF
  have HF := Lib.hid hF
  have HB0 := Lib.hid hb0
  clear h hb0 hF hlen
  go_enter Tryz.func22, Tryz.ntmps22
  go_wp2_with fail
  refine HF.out.mono ?_
  rintro e w1 ⟨rfl, hb⟩
  have k6 : w1.cell? ⟨w.heap.size, 6, none⟩ = some (.int .i64 x.n6) := (hb.cell (p := ⟨w.heap.size, 6, none⟩) (by simp)).trans (cell_new _ _ _ _ _ _ rfl)
  have HB := Lib.hid (HB0.out.trans (hb.mono HB0.out.size))
  clear hb HF
  obtain ⟨o, ho⟩ : ∃ o, findN l name = o := ⟨_, rfl⟩
  rw [ho]
  have HO := Lib.hid ho
  clear ho
  cases o with
  | none =>
    unfold optV
    go_wp2_with fail
    go_ret
    exact ⟨by rw [HO.out]; rfl, HB.out⟩
  | some n =>
    unfold optV
    go_wp2_with fail
    go_ret
    exact ⟨by rw [HO.out]; rfl, HB.out⟩
theorem ncells_snoc (l : List Nm) (y : Nm) : (ncells (l ++ [y])).flatten = (ncells l).flatten ++ y.cells.toList := by simp [ncells]
/-- The names as the program's. -/
theorem named_calls (w : World) (a : Option Addr) (c : Nat) (l : List Nm) (h : InN w a l.length l) (hm : l.length ≤ 1000000) :
    Calls Tryz.prog 19 #[.slice a l.length c] w fun e w' => ∃ s : Sl, e = .returned (.slice s.a s.n s.c) ∧ RowOf w' (fun k => w.heap.size ≤ k) 91 2 s (ncells l) ∧ Below w.heap.size w w' := by
  have HIN := Lib.hid h
  obtain ⟨i0, hi, hz0, hz1, hz2⟩ := info_parts infoN
  have HI := Lib.hid hi
  have HZ0 := Lib.hid hz0
  have HZ1 := Lib.hid hz1
  have HZ2 := Lib.hid hz2
  clear h hi hz0 hz1 hz2
  go_enter Tryz.func19, Tryz.ntmps19
  go_wp2_with fail
  go_loopw [3, 8] (fun c3 c8 wr => ∃ i : Nat, i ≤ l.length ∧ c8 = .int .i64 i ∧ wr.ownsRow w.heap.size 91 2 c3 i (ncells (l.take i)).flatten ∧ Below w.heap.size w wr) (fun _ c8 _ => l.length - (intOf c8).toNat)
  case atStart => exact ⟨0, by omega, rfl, ⟨rfl, .inl ⟨rfl, rfl⟩⟩, Below.refl _ _⟩
  case round =>
    obtain ⟨i, hi, rfl, hown, hb⟩ := hrel
    have HB := Lib.hid hb
    have HOWN := Lib.hid hown
    have hbs := hb.size
    by_cases hlt : i < l.length
    · have hy : l[i]? = some l[i] := List.getElem?_eq_getElem hlt
      obtain ⟨x, rfl, hxl, hc⟩ := (HIN.out.below hb rfl).2.2 (by omega)
      generalize l[i] = y at hy
      obtain ⟨c0, c1⟩ := hc i y hy
      have HY := Lib.hid hy
      clear hy hc hb hown
      go_wp2_with (at_builtin; refine wpList_append_own _ rfl _ _ 31 rfl w.heap.size 91 i0 _ 2 24 Tryz.underlying31 HI.out HZ0.out HZ1.out HZ2.out rfl (by decide) _ i (ncells (l.take i)).flatten rfl ((HOWN.out.alloc _).alloc _) ⟨wr.heap.size + 1, 0, none⟩ 1 1 [.string y.name, .int .i64 y.level] rfl rfl ?c1 ?c2 ?c3 ?c4 ?c5 ?_)
      case c1 =>
        intro j u hj
        refine World.news_of_block (B := wr.heap.size + 1) (cs := #[.string y.name, .int .i64 y.level]) (t := 91) (fr := (0, 0)) ?_ j u hj
        have := heap_new (wr.alloc (.cells #[.string y.name, .int .i64 y.level] 55)) (.cells #[.string y.name, .int .i64 y.level] 91 (0, 0))
        rw [show (wr.alloc (.cells #[.string y.name, .int .i64 y.level] 55)).heap.size = wr.heap.size + 1 by simp] at this
        exact this
      case c2 => intro u hu; simp at hu; rcases hu with rfl | rfl <;> rfl
      case c3 => unfold maxLen; omega
      case c4 => omega
      case c5 => simp; omega
      intro v' w4 hown4 hg4 _
      have HOWN4 := Lib.hid hown4
      have HB4 := Lib.hid (((HB.out.alloc HB.out.size (.cells #[.string y.name, .int .i64 y.level] 55)).alloc (by simp; omega) (.cells #[.string y.name, .int .i64 y.level] 91)).grown hg4 (by simp; omega) (fun j hj => (HOWN.out.lt j hj).1))
      clear hown4 hg4
      go_wp2_with fail
      refine ⟨⟨i + 1, by omega, by go_num, ?_, HB4.out⟩, by simp [intOf]; omega⟩
      have : (ncells (l.take (i + 1))).flatten = (ncells (l.take i)).flatten ++ [.string y.name, .int .i64 y.level] := by
        rw [List.take_add_one, HY.out]
        exact ncells_snoc _ _
      rw [this]
      have h2 := HOWN4.out
      rw [← List.map_take] at h2
      exact h2
    · obtain rfl : i = l.length := by omega
      have h1 := hown
      rw [List.take_of_length_le (Nat.le_refl _)] at h1
      obtain ⟨s, rfl, hrow⟩ := RowOf.of_own h1 (ncells_len l) (by decide) (by simpa using hm)
      have HROW := Lib.hid hrow
      clear hown h1 hrow hb HOWN
      go_wp2_with fail
      go_ret
      exact ⟨s, rfl, HROW.out, HB.out⟩
end Go.Proofs.YtiehdfokcnphdaaGreatDoor
