/- PowerAsks, the inputs that its guards keep out: awake's answer. -/
import Derived.Test.YtiehdfokcnphdaaPz
namespace Go.Proofs.Ytiehdfokcnphdaa
open Go.RowKit

set_option maxRecDepth 100000 in
set_option maxHeartbeats 1600000 in
theorem asks_out (w : World) (x : L9) (el ul : List Nm) (name typ : ByteArray) (he : InN w x.ev.a x.ev.n el) (hu : InN w x.us.a x.us.n ul) (hm : Mx w) (hno : fewB el = false ∨ (fewB el = true ∧ fewB ul = false) ∨ (fewB el = true ∧ fewB ul = true ∧ 100 < name.size) ∨ (fewB el = true ∧ fewB ul = true ∧ name.size ≤ 100 ∧ 100 < typ.size)) :
    Calls Try.prog 3 #[.agg x.cells, .string name, .string typ] w fun e w' => e = .returned (.bool true) ∧ Below w.heap.size w w' := by
  have hpos := hm.pos
  have hel2 : x.ev.n = el.length := he.1
  have hul2 : x.us.n = ul.length := hu.1
  have HA := Lib.hid (fun (W : World) (h : Below w.heap.size w W) => awake_calls W (hm.below h hpos))
  have hFE : ∀ W : World, Below w.heap.size w W → Calls Try.prog 7 #[.slice x.ev.a x.ev.n x.ev.c] W fun e w' => e = .returned (.bool (fewB el)) ∧ Below W.heap.size W w' := fun W h => by
    have h1 := he.below h rfl
    rw [hel2] at h1 ⊢
    exact few_calls W x.ev.a x.ev.c el h1
  have hFU : ∀ W : World, Below w.heap.size w W → Calls Try.prog 7 #[.slice x.us.a x.us.n x.us.c] W fun e w' => e = .returned (.bool (fewB ul)) ∧ Below W.heap.size W w' := fun W h => by
    have h1 := hu.below h rfl
    rw [hul2] at h1 ⊢
    exact few_calls W x.us.a x.us.c ul h1
  have HFE := Lib.hid hFE
  have HFU := Lib.hid hFU
  clear hFE hFU he hu hm hel2 hul2
  generalize fewB el = be at *
  generalize fewB ul = bu at *
  go_enter Try.func3, Try.ntmps3
  go_wp2_with fail
  obtain ⟨W0, hW0⟩ : ∃ W0, W0 = w.alloc (.cells x.cells 25) := ⟨_, rfl⟩
  rw [← hW0]
  have hb0 : Below w.heap.size w W0 := by rw [hW0]; exact (Below.refl _ _).alloc (Nat.le_refl _) _
  have hq0 : W0.heap[w.heap.size]? = some (.cells x.cells 25 (0, 0)) := by rw [hW0]; exact heap_new _ _
  clear hW0
  refine (HA.out W0 hb0).mono ?_
  rintro e W1 ⟨rfl, hb1⟩
  have hb1' := hb0.trans (hb1.mono hb0.size)
  have hq1 := (hb1.block _ (Array.getElem?_eq_some_iff.1 hq0).1).trans hq0
  have q7 := cell_at (j := 7) hq1 rfl
  have HB1 := Lib.hid hb1'
  have HQ1 := Lib.hid hq1
  clear hb0 hq0 hb1 hb1' hq1
  rcases hno with rfl | ⟨rfl, rfl⟩ | ⟨rfl, rfl, hn⟩ | ⟨rfl, rfl, hn, ht⟩
  · go_wp2_with fail
    refine (HFE.out W1 HB1.out).mono ?_
    rintro e W2 ⟨rfl, hb2⟩
    have HB2 := Lib.hid (HB1.out.trans (hb2.mono HB1.out.size))
    clear hb2 HFE HB1 HQ1 q7
    go_wp2_with fail
    refine (HA.out W2 HB2.out).mono ?_
    rintro e W3 ⟨rfl, hb3⟩
    have HB3 := Lib.hid (HB2.out.trans (hb3.mono HB2.out.size))
    clear hb3 HB2 HA
    go_wp2_with fail
    go_ret
    exact ⟨rfl, HB3.out⟩
  all_goals
    go_wp2_with fail
    refine (HFE.out W1 HB1.out).mono ?_
    rintro e W2 ⟨rfl, hb2⟩
    have hq2 := (hb2.block _ (Array.getElem?_eq_some_iff.1 HQ1.out).1).trans HQ1.out
    have q8 := cell_at (j := 8) hq2 rfl
    have HB2 := Lib.hid (HB1.out.trans (hb2.mono HB1.out.size))
    clear hb2 hq2 HFE HB1 HQ1 q7
    go_wp2_with fail
    refine (HFU.out W2 HB2.out).mono ?_
    rintro e W3 ⟨rfl, hb3⟩
    have HB3 := Lib.hid (HB2.out.trans (hb3.mono HB2.out.size))
    clear hb3 HFU HB2 q8
  · go_wp2_with fail
    refine (HA.out W3 HB3.out).mono ?_
    rintro e W4 ⟨rfl, hb4⟩
    have HB4 := Lib.hid (HB3.out.trans (hb4.mono HB3.out.size))
    clear hb4 HB3 HA
    go_wp2_with fail
    go_ret
    exact ⟨rfl, HB4.out⟩
  · have hn2 : decide ((100 : Int) < name.size) = true := by simp; omega
    go_wp2_with fail
    refine (HA.out W3 HB3.out).mono ?_
    rintro e W4 ⟨rfl, hb4⟩
    have HB4 := Lib.hid (HB3.out.trans (hb4.mono HB3.out.size))
    clear hb4 HB3 HA
    go_wp2_with fail
    go_ret
    exact ⟨rfl, HB4.out⟩
  · have hn2 : decide ((100 : Int) < name.size) = false := by simp; omega
    have ht2 : decide ((100 : Int) < typ.size) = true := by simp; omega
    go_wp2_with fail
    refine (HA.out W3 HB3.out).mono ?_
    rintro e W4 ⟨rfl, hb4⟩
    have HB4 := Lib.hid (HB3.out.trans (hb4.mono HB3.out.size))
    clear hb4 HB3 HA
    go_wp2_with fail
    go_ret
    exact ⟨rfl, HB4.out⟩
end Go.Proofs.Ytiehdfokcnphdaa
