/- Acts that came in; whether they are few. -/
import Derived.Test.YtgnoaeldmpbjmaaGreatDoorRq
set_option linter.unusedVariables false
namespace Go.Proofs.YtgnoaeldmpbjmaaGreatDoor
open Go.RowKit

/-- An act. -/
structure Ac where
  drop : Bool
  may : Bool
  a : ByteArray
  r : ByteArray
  b : ByteArray
abbrev Ac.cells (x : Ac) : Array Value := #[.bool x.drop, .bool x.may, .string x.a, .string x.r, .string x.b]
theorem addr_add_block (x : Addr) (n : Nat) : (x.add n).block = x.block := by unfold Addr.add; split <;> rfl
/-- A list of acts that came in. -/
def InA (w : World) (a : Option Addr) (len : Nat) (l : List Ac) : Prop :=
  len = l.length ∧ l.length ≤ 9223372036854775807 ∧ (∀ y ∈ l, y.a.size ≤ 9223372036854775807 ∧ y.r.size ≤ 9223372036854775807 ∧ y.b.size ≤ 9223372036854775807) ∧ (0 < l.length → ∃ x : Addr, a = some x ∧ x.block < w.heap.size ∧ ∀ (i : Nat) (y : Ac), l[i]? = some y →
    w.cell? (x.add (i * 5)) = some (.bool y.drop) ∧ w.cell? ⟨(x.add (i * 5)).block, (x.add (i * 5)).off + 1, none⟩ = some (.bool y.may) ∧ w.cell? ⟨(x.add (i * 5)).block, (x.add (i * 5)).off + 2, none⟩ = some (.string y.a) ∧
    w.cell? ⟨(x.add (i * 5)).block, (x.add (i * 5)).off + 3, none⟩ = some (.string y.r) ∧ w.cell? ⟨(x.add (i * 5)).block, (x.add (i * 5)).off + 4, none⟩ = some (.string y.b))
theorem InA.below {B : Nat} {w w' : World} {a : Option Addr} {len : Nat} {l : List Ac} (h : InA w a len l) (hb : Below B w w') (hB : B = w.heap.size) : InA w' a len l := by
  obtain ⟨h1, h2, h4, h3⟩ := h
  subst hB
  refine ⟨h1, h2, h4, fun hl => ?_⟩
  obtain ⟨x, ha, hx, hc⟩ := h3 hl
  refine ⟨x, ha, Nat.lt_of_lt_of_le hx hb.size, fun i y hy => ?_⟩
  obtain ⟨c0, c1, c2, c3, c4⟩ := hc i y hy
  have hk : ∀ j, w'.cell? ⟨(x.add (i * 5)).block, (x.add (i * 5)).off + j, none⟩ = w.cell? ⟨(x.add (i * 5)).block, (x.add (i * 5)).off + j, none⟩ := fun j => hb.cell (p := ⟨(x.add (i * 5)).block, (x.add (i * 5)).off + j, none⟩) (by rw [addr_add_block]; exact hx)
  exact ⟨(hb.cell (p := x.add (i * 5)) (by rw [addr_add_block]; exact hx)).trans c0, (hk 1).trans c1, (hk 2).trans c2, (hk 3).trans c3, (hk 4).trans c4⟩
def okA (x : Ac) : Bool := decide (x.a.size ≤ 150) && decide (x.r.size ≤ 150) && decide (x.b.size ≤ 150)
def fewA (l : List Ac) : Bool := l.all okA && decide (l.length ≤ 40)
set_option maxRecDepth 100000 in
set_option maxHeartbeats 2000000 in
theorem fewA_calls (w : World) (a : Option Addr) (c : Nat) (l : List Ac) (h : InA w a l.length l) : Calls Tryz.prog 7 #[.slice a l.length c] w fun e w' => e = .returned (.bool (fewA l)) ∧ Below w.heap.size w w' := by
  have hlen := h.2.1
  have HIN := Lib.hid h
  clear h
  go_enter Tryz.func7, Tryz.ntmps7
  go_wp2_with fail
  go_loopw [7] (fun c7 wr => ∃ i : Nat, i ≤ l.length ∧ c7 = .int .i64 i ∧ (∀ (j : Nat) (y : Ac), j < i → l[j]? = some y → okA y = true) ∧ Below w.heap.size w wr) (fun c7 _ => l.length - (intOf c7).toNat)
  case atStart => exact ⟨0, by omega, rfl, by omega, Below.refl _ _⟩
  case round =>
    obtain ⟨i, hi, rfl, hall, hb⟩ := hrel
    have HALL := Lib.hid hall
    have HB := Lib.hid hb
    have hbs := hb.size
    clear hall
    by_cases hlt : i < l.length
    · have hy : l[i]? = some l[i] := List.getElem?_eq_getElem hlt
      obtain ⟨x, rfl, hxl, hc⟩ := (HIN.out.below hb rfl).2.2.2 (by omega)
      generalize l[i] = y at hy
      obtain ⟨c0, c1, c2, c3, c4⟩ := hc i y hy
      have HY := Lib.hid hy
      have HBAD := Lib.hid (show okA y = false → fewA l = false by
        intro h
        have : l.all okA = false := List.all_eq_false.2 ⟨y, List.mem_of_getElem? hy, by rw [h]; simp⟩
        simp [fewA, this])
      clear hy hc hb
      by_cases h1 : y.a.size ≤ 150
      · by_cases h2 : y.r.size ≤ 150
        · by_cases h3 : y.b.size ≤ 150
          · have HOK := Lib.hid (show okA y = true by simp [okA, h1, h2, h3])
            go_wp2_with fail
            refine ⟨⟨i + 1, by omega, by go_num, ?_, HB.out.alloc HB.out.size _⟩, by simp [intOf]; omega⟩
            intro j z hj hz
            by_cases hji : j = i
            · subst hji
              rw [HY.out] at hz
              cases hz
              exact HOK.out
            · exact HALL.out j z (by omega) hz
          · have HOK := Lib.hid (show okA y = false by simp [okA, h3])
            go_wp2_with fail
            go_ret
            exact ⟨by rw [HBAD.out HOK.out]; rfl, HB.out.alloc HB.out.size _⟩
        · have HOK := Lib.hid (show okA y = false by simp [okA, h2])
          go_wp2_with fail
          go_ret
          exact ⟨by rw [HBAD.out HOK.out]; rfl, HB.out.alloc HB.out.size _⟩
      · have HOK := Lib.hid (show okA y = false by simp [okA, h1])
        go_wp2_with fail
        go_ret
        exact ⟨by rw [HBAD.out HOK.out]; rfl, HB.out.alloc HB.out.size _⟩
    · obtain rfl : i = l.length := by omega
      clear hb
      have hall : l.all okA = true := by
        rw [List.all_eq_true]
        intro z hz
        obtain ⟨j, hj⟩ := List.mem_iff_getElem?.1 hz
        exact HALL.out j z (List.getElem?_eq_some_iff.1 hj).1 hj
      have HF := Lib.hid (show fewA l = decide (l.length ≤ 40) by simp [fewA, hall])
      clear hall
      go_wp2_with fail
      go_ret
      refine ⟨?_, HB.out⟩
      rw [HF.out]
      simp
      try omega
end Go.Proofs.YtgnoaeldmpbjmaaGreatDoor
