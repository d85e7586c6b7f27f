/- Chapter 9's statements: what comes in, as the program's levels. -/
import Derived.Test.YtiehdfokcnphdaaGreatDoorAw
namespace Go.Proofs.YtiehdfokcnphdaaGreatDoor
open Go.RowKit

/-- A list of names' numbers that came in. -/
def InN (w : World) (a : Option Addr) (len : Nat) (l : List Nm) : Prop :=
  len = l.length ∧ l.length ≤ 9223372036854775807 ∧ (0 < l.length → ∃ x : Addr, a = some x ∧ x.block < w.heap.size ∧ ∀ (i : Nat) (y : Nm), l[i]? = some y → w.cell? (x.add (i * 2)) = some (.string y.name) ∧ w.cell? ⟨(x.add (i * 2)).block, (x.add (i * 2)).off + 1, none⟩ = some (.int .i64 y.level))
theorem InN.below {B : Nat} {w w' : World} {a : Option Addr} {len : Nat} {l : List Nm} (h : InN w a len l) (hb : Below B w w') (hB : B = w.heap.size) : InN w' a len l := by
  obtain ⟨h1, h2, h3⟩ := h
  subst hB
  refine ⟨h1, h2, fun hl => ?_⟩
  obtain ⟨x, ha, hx, hc⟩ := h3 hl
  refine ⟨x, ha, Nat.lt_of_lt_of_le hx hb.size, fun i y hy => ?_⟩
  obtain ⟨c0, c1⟩ := hc i y hy
  exact ⟨(hb.cell (p := x.add (i * 2)) (by rw [block_add]; exact hx)).trans c0, (hb.cell (p := ⟨(x.add (i * 2)).block, (x.add (i * 2)).off + 1, none⟩) (by rw [block_add]; exact hx)).trans c1⟩

def fewB (l : List Nm) : Bool := l.all (fun x => decide (x.name.size ≤ 100)) && decide (l.length ≤ 20)
theorem few_calls (w : World) (a : Option Addr) (c : Nat) (l : List Nm) (h : InN w a l.length l) : Calls Tryz.prog 5 #[.slice a l.length c] w fun e w' => e = .returned (.bool (fewB l)) ∧ Below w.heap.size w w' := by
  have hlen := h.2.1
  have HIN := Lib.hid h
  clear h
  go_enter Tryz.func5, Tryz.ntmps5
  go_wp2_with fail
  go_loopw [7] (fun c7 wr => ∃ i : Nat, i ≤ l.length ∧ c7 = .int .i64 i ∧ (∀ (j : Nat) (y : Nm), j < i → l[j]? = some y → y.name.size ≤ 100) ∧ Below w.heap.size w wr) (fun c7 _ => l.length - (intOf c7).toNat)
  case atStart => exact ⟨0, by omega, rfl, by omega, Below.refl _ _⟩
  case round =>
    obtain ⟨i, hi, rfl, hall, hb⟩ := hrel
    have HALL := Lib.hid hall
    have HB := Lib.hid hb
    have hbs := hb.size
    clear hall
    by_cases hlt : i < l.length
    · have hy : l[i]? = some l[i] := List.getElem?_eq_getElem hlt
      obtain ⟨x, rfl, hxl, hc⟩ := (HIN.out.below hb rfl).2.2 (by omega)
      generalize l[i] = y at hy
      obtain ⟨c0, c1⟩ := hc i y hy
      have HY := Lib.hid hy
      clear hy hc hb
      by_cases hsz : y.name.size ≤ 100
      · have HSZ := Lib.hid hsz
        go_wp2_with fail
        refine ⟨⟨i + 1, by omega, by go_num, ?_, HB.out.alloc HB.out.size _⟩, by simp [intOf]; omega⟩
        intro j z hj hz
        by_cases hji : j = i
        · subst hji
          rw [HY.out] at hz
          cases hz
          exact HSZ.out
        · exact HALL.out j z (by omega) hz
      · have HSZ := Lib.hid hsz
        go_wp2_with fail
        go_ret
        refine ⟨?_, HB.out.alloc HB.out.size _⟩
        have : l.all (fun x => decide (x.name.size ≤ 100)) = false := by
          rw [List.all_eq_false]
          exact ⟨y, List.mem_of_getElem? HY.out, by simp; have := HSZ.out; omega⟩
        simp [fewB, this]
    · obtain rfl : i = l.length := by omega
      clear hb
      go_wp2_with fail
      go_ret
      refine ⟨?_, HB.out⟩
      have : l.all (fun x => decide (x.name.size ≤ 100)) = true := by
        rw [List.all_eq_true]
        intro z hz
        obtain ⟨j, hj⟩ := List.mem_iff_getElem?.1 hz
        simpa using HALL.out j z (List.getElem?_eq_some_iff.1 hj).1 hj
      unfold fewB
      rw [this]
      simp
      try omega
/-- The document's find. -/
theorem rfind_calls (w : World) (a : Option Addr) (c : Nat) (l : List Nm) (name : ByteArray) (h : InN w a l.length l) : Calls Tryz.prog 46 #[.slice a l.length c, .string name] w fun e w' => e = .returned (optV (findN l name)) ∧ Below w.heap.size w w' := by
  have hlen := h.2.1
  have HIN := Lib.hid h
  have HC := Lib.hid (findN_cases l name)
  clear h
  go_enter Tryz.func46, Tryz.ntmps46
  go_wp2_with fail
  go_loopw [9] (fun c9 wr => ∃ i : Nat, i ≤ l.length ∧ c9 = .int .i64 i ∧ (∀ (j : Nat) (y : Nm), j < i → l[j]? = some y → nameIs name y = false) ∧ wr = w) (fun c9 _ => l.length - (intOf c9).toNat)
  case atStart => exact ⟨0, by omega, rfl, by omega, rfl⟩
  case round =>
    obtain ⟨i, hi, rfl, hall, rfl⟩ := hrel
    have HALL := Lib.hid hall
    clear hall
    by_cases hlt : i < l.length
    · have hy : l[i]? = some l[i] := List.getElem?_eq_getElem hlt
      obtain ⟨x, rfl, hxl, hc⟩ := HIN.out.2.2 (by omega)
      generalize l[i] = y at hy
      obtain ⟨c0, c1⟩ := hc i y hy
      have HY := Lib.hid hy
      clear hy hc
      by_cases hnm : nameIs name y = true
      · have hnm2 : (y.name.toList == name.toList) = true := hnm
        have HF := Lib.hid (show findN l name = some y.level by
          have := idxOf_some (nameIs name) l i y HY.out hnm (fun j q hj hq => HALL.out j q hj hq)
          rcases HC.out with ⟨h1, _⟩ | ⟨j, z, h1, _, h3, h4⟩
          · rw [this] at h1; omega
          · rw [this] at h1
            have : j = i := by omega
            subst this
            rw [HY.out] at h3
            cases h3
            exact h4)
        clear hnm
        go_wp2_with fail
        go_ret2
        exact ⟨by rw [HF.out]; rfl, Below.refl _ _⟩
      · have hnf : nameIs name y = false := by simpa using hnm
        have hnm2 : (y.name.toList == name.toList) = false := hnf
        have HNF := Lib.hid hnf
        clear hnm hnf
        go_wp2_with fail
        refine ⟨⟨i + 1, by omega, by go_num, ?_, (by first | rfl | trivial)⟩, by simp [intOf]; omega⟩
        intro j z hj hz
        by_cases hji : j = i
        · subst hji
          rw [HY.out] at hz
          cases hz
          exact HNF.out
        · exact HALL.out j z (by omega) hz
    · obtain rfl : i = l.length := by omega
      have HF := Lib.hid (show findN l name = none by
        rcases HC.out with ⟨_, h⟩ | ⟨j, z, h1, h2, h3, h4⟩
        · exact h
        · have := idxOf_none (nameIs name) l (fun j q hj => HALL.out j q (List.getElem?_eq_some_iff.1 hj).1 hj)
          rw [this] at h1; omega)
      go_wp2_with fail
      go_ret2
      exact ⟨by rw [HF.out]; rfl, Below.refl _ _⟩
end Go.Proofs.YtiehdfokcnphdaaGreatDoor
