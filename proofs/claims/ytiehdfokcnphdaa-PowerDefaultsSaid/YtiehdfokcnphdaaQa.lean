/- PowerAsks, the walk. -/
import Derived.Test.YtiehdfokcnphdaaPz
import Derived.Test.YtiehdfokcnphdaaQb
namespace Go.Proofs.Ytiehdfokcnphdaa
open Go.RowKit

/-- A later world in which all that was there stands as it did. -/
structure BelW (w : World) where
  world : World
  h : Below w.heap.size w world
instance (w : World) : Inhabited (BelW w) := ⟨⟨w, Below.refl _ _⟩⟩
/-- A region that only reads, whose callees leave what was there as it was, walked once. -/
theorem wp_region_quiet_bel {P : Program} {id : Nat} {Q : Exit → Act → World → Prop} {a : Act} {w : World} {l : List Oper} (hm : P.follows .mixedOrders = true) (hB : Region.lexB .any l.toArray = true)
    (h : wpQuiet P l.toArray (fun w' => ∃ p : BelW w, w' = p.world) (fun a' => ∀ w', (∃ p : BelW w, w' = p.world) → Q .normal a' w') l a) : (Code.region id l.toArray true).wp P Q a w :=
  wp_region_quiet (C := fun w' => ∃ p : BelW w, w' = p.world) hm hB ⟨⟨w.drew, (Below.refl _ _).drew⟩, rfl⟩ (by simpa using h)
theorem Calls.bel_of {P : Program} {f : FuncId} {args : Array Value} {w : World} {p : BelW w} {v : Value} (h : Calls P f args p.world fun e w' => e = .returned v ∧ Below p.world.heap.size p.world w') :
    Calls P f args p.world fun e w'' => e = .returned v ∧ ∃ q : BelW w, w'' = q.world :=
  h.mono fun _ w' ⟨he, hb⟩ => ⟨he, ⟨w', p.h.trans (hb.mono p.h.size)⟩, rfl⟩
/-- The guards of PowerAsks. -/
def asksB (el ul : List Nm) (name typ : ByteArray) : Bool := fewB el && fewB ul && decide (name.size ≤ 100) && decide (typ.size ≤ 100)

set_option maxRecDepth 100000 in
set_option maxHeartbeats 6400000 in
theorem asks_in (w : World) (x : L9) (el ul : List Nm) (name typ : ByteArray) (he : InN w x.ev.a x.ev.n el) (hu : InN w x.us.a x.us.n ul) (hm : Mx w) (hfe : fewB el = true) (hfu : fewB ul = true) (hn : name.size ≤ 100) (ht : typ.size ≤ 100) :
    Calls Try.prog 3 #[.agg x.cells, .string name, .string typ] w fun e w' => e = .returned (.bool true) ∧ Below w.heap.size w w' := by
  have hpos := hm.pos
  have hel : el.length ≤ 1000000 := by
    have : el.length ≤ 20 := by unfold fewB at hfe; simp at hfe; exact hfe.2
    omega
  have hul : ul.length ≤ 1000000 := by
    have : ul.length ≤ 20 := by unfold fewB at hfu; simp at hfu; exact hfu.2
    omega
  have hel2 : x.ev.n = el.length := he.1
  have hul2 : x.us.n = ul.length := hu.1
  have HA := Lib.hid (fun (W : World) (h : Below w.heap.size w W) => awake_calls W (hm.below h hpos))
  have hFE : ∀ W : World, Below w.heap.size w W → Calls Try.prog 7 #[.slice x.ev.a x.ev.n x.ev.c] W fun e w' => e = .returned (.bool true) ∧ Below W.heap.size W w' := fun W h => by
    have h1 := he.below h rfl
    rw [hel2] at h1 ⊢
    have := few_calls W x.ev.a x.ev.c el h1
    rw [hfe] at this
    exact this
  have hFU : ∀ W : World, Below w.heap.size w W → Calls Try.prog 7 #[.slice x.us.a x.us.n x.us.c] W fun e w' => e = .returned (.bool true) ∧ Below W.heap.size W w' := fun W h => by
    have h1 := hu.below h rfl
    rw [hul2] at h1 ⊢
    have := few_calls W x.us.a x.us.c ul h1
    rw [hfu] at this
    exact this
  have HFE := Lib.hid hFE
  have HFU := Lib.hid hFU
  have HRE := Lib.hid (fun (W : World) (h : Below w.heap.size w W) => real_calls W x el ul (he.below h rfl) (hu.below h rfl) hel hul)
  have HRUser := Lib.hid (fun (W : World) (h : Below w.heap.size w W) => ruser_calls W x ul name (hu.below h rfl))
  have HRNeed := Lib.hid (fun (W : World) (b : Bool) (h : Below w.heap.size w W) => rneeds_calls W x el typ b (he.below h rfl))
  have hn2 : decide ((100 : Int) < name.size) = false := by simp; omega
  have ht2 : decide ((100 : Int) < typ.size) = false := by simp; omega
  clear hFE hFU he hu hm hel hul hel2 hul2 hfe hfu hn ht
  go_enter Try.func3, Try.ntmps3
  go_wp2_with fail
  obtain ⟨W0, hW0⟩ : ∃ W0, W0 = w.alloc (.cells x.cells 25) := ⟨_, rfl⟩
  rw [← hW0]
  have hb0 : Below w.heap.size w W0 := by rw [hW0]; exact (Below.refl _ _).alloc (Nat.le_refl _) _
  have hq0 : W0.heap[w.heap.size]? = some (.cells x.cells 25 (0, 0)) := by rw [hW0]; exact heap_new _ _
  clear hW0
  refine (HA.out W0 hb0).mono ?_
  rintro e W1 ⟨rfl, hb1⟩
  have hb1' := hb0.trans (hb1.mono hb0.size)
  have hq1 := (hb1.block _ (Array.getElem?_eq_some_iff.1 hq0).1).trans hq0
  have q7 := cell_at (j := 7) hq1 rfl
  have HB1 := Lib.hid hb1'
  have HQ1 := Lib.hid hq1
  clear hb0 hq0 hb1 hb1' hq1 HA
  go_wp2_with fail
  refine (HFE.out W1 HB1.out).mono ?_
  rintro e W2 ⟨rfl, hb2⟩
  have hq2 := (hb2.block _ (Array.getElem?_eq_some_iff.1 HQ1.out).1).trans HQ1.out
  have q8 := cell_at (j := 8) hq2 rfl
  have HB2 := Lib.hid (HB1.out.trans (hb2.mono HB1.out.size))
  have HQ2 := Lib.hid hq2
  clear hb2 hq2 HFE HB1 HQ1 q7
  go_wp2_with fail
  refine (HFU.out W2 HB2.out).mono ?_
  rintro e W3 ⟨rfl, hb3⟩
  have hq3 := (hb3.block _ (Array.getElem?_eq_some_iff.1 HQ2.out).1).trans HQ2.out
  have q0 := cell_at (j := 0) hq3 rfl
  have q1 := cell_at (j := 1) hq3 rfl
  have q2 := cell_at (j := 2) hq3 rfl
  have q3 := cell_at (j := 3) hq3 rfl
  have q4 := cell_at (j := 4) hq3 rfl
  have q5 := cell_at (j := 5) hq3 rfl
  have q6 := cell_at (j := 6) hq3 rfl
  have q7 := cell_at (j := 7) hq3 rfl
  have q8 := cell_at (j := 8) hq3 rfl
  have HB3 := Lib.hid (HB2.out.trans (hb3.mono HB2.out.size))
  have HQ3 := Lib.hid hq3
  clear hb3 hq3 HFU HB2 HQ2
  go_wp2_with fail
  refine (HRE.out W3 HB3.out).mono ?_
  rintro e W4 ⟨se, su, rfl, hre, hru, hb4⟩
  have hq4 := (hb4.block _ (Array.getElem?_eq_some_iff.1 HQ3.out).1).trans HQ3.out
  have HB4 := Lib.hid (HB3.out.trans (hb4.mono HB3.out.size))
  have HREo := Lib.hid hre
  have HRUo := Lib.hid hru
  have HQ4 := Lib.hid hq4
  have hwl4 := (Array.getElem?_eq_some_iff.1 hq4).1
  clear hre hru hb4 hq4 HRE HB3 HQ3 q0 q1 q2 q3 q4 q5 q6 q7 q8
  simp only [realLv, Lv.cells]
  go_wp2_with fail
  obtain ⟨W5, hW5⟩ : ∃ W5, W5 = W4.alloc (.cells #[.int .i64 x.n0, .int .i64 x.n1, .int .i64 x.n2, .int .i64 x.n3, .int .i64 x.n4, .int .i64 x.n5, .int .i64 x.n6, .slice se.a se.n se.c, .slice su.a su.n su.c] 30 (0, 0)) := ⟨_, rfl⟩
  rw [← hW5]
  have hb5 : Below W4.heap.size W4 W5 := by rw [hW5]; exact (Below.refl _ _).alloc (Nat.le_refl _) _
  have hp5 : W5.heap[W4.heap.size]? = some (.cells #[.int .i64 x.n0, .int .i64 x.n1, .int .i64 x.n2, .int .i64 x.n3, .int .i64 x.n4, .int .i64 x.n5, .int .i64 x.n6, .slice se.a se.n se.c, .slice su.a su.n su.c] 30 (0, 0)) := by rw [hW5]; exact heap_new _ _
  have hq5 := (hb5.block _ hwl4).trans HQ4.out
  have hl5 := (Array.getElem?_eq_some_iff.1 hp5).1
  have hw5 := (Array.getElem?_eq_some_iff.1 hq5).1
  have hbw5 : Below w.heap.size w W5 := HB4.out.trans (hb5.mono HB4.out.size)
  have HBW5 := Lib.hid hbw5
  have HXU := Lib.hid (fun (W : World) (h : Below W5.heap.size W5 W) => user_calls W _ ⟨x.n0, x.n1, x.n2, x.n3, x.n4, x.n5, x.n6, se, su⟩ ul name ((HRUo.out.same hb5.size (fun k hk _ => hb5.block k hk)).same h.size (fun k hk _ => h.block k hk)))
  have HXT := Lib.hid (fun (W : World) (h : Below W5.heap.size W5 W) => needs_calls W _ ⟨x.n0, x.n1, x.n2, x.n3, x.n4, x.n5, x.n6, se, su⟩ el typ true ((HREo.out.same hb5.size (fun k hk _ => hb5.block k hk)).same h.size (fun k hk _ => h.block k hk)))
  have HXF := Lib.hid (fun (W : World) (h : Below W5.heap.size W5 W) => needs_calls W _ ⟨x.n0, x.n1, x.n2, x.n3, x.n4, x.n5, x.n6, se, su⟩ el typ false ((HREo.out.same hb5.size (fun k hk _ => hb5.block k hk)).same h.size (fun k hk _ => h.block k hk)))
  have HRU := Lib.hid (fun (W : World) (h : Below W5.heap.size W5 W) => HRUser.out W (HBW5.out.trans (h.mono HBW5.out.size)))
  have HRT := Lib.hid (fun (W : World) (h : Below W5.heap.size W5 W) => HRNeed.out W true (HBW5.out.trans (h.mono HBW5.out.size)))
  have HRF := Lib.hid (fun (W : World) (h : Below W5.heap.size W5 W) => HRNeed.out W false (HBW5.out.trans (h.mono HBW5.out.size)))
  obtain ⟨vu, hvu⟩ : ∃ vu, (findN ul name).getD x.n6 = vu := ⟨_, rfl⟩
  obtain ⟨vt, hvt⟩ : ∃ vt, (findN el typ).getD x.n4 = vt := ⟨_, rfl⟩
  obtain ⟨vf, hvf⟩ : ∃ vf, (findN el typ).getD x.n5 = vf := ⟨_, rfl⟩
  simp only [hvu, hvt, hvf, if_true, Bool.false_eq_true, if_false] at HXU HXT HXF HRU HRT HRF
  clear hvu hvt hvf HRUser HRNeed HREo HRUo HQ4 HB4
  have hcur : Below W5.heap.size W5 W5 := Below.refl _ _
  have p0 := cell_at (j := 0) hp5 rfl
  have p1 := cell_at (j := 1) hp5 rfl
  have p2 := cell_at (j := 2) hp5 rfl
  have p3 := cell_at (j := 3) hp5 rfl
  have p4 := cell_at (j := 4) hp5 rfl
  have p5 := cell_at (j := 5) hp5 rfl
  have p6 := cell_at (j := 6) hp5 rfl
  have p7 := cell_at (j := 7) hp5 rfl
  have p8 := cell_at (j := 8) hp5 rfl
  have q0 := cell_at (j := 0) hq5 rfl
  have q1 := cell_at (j := 1) hq5 rfl
  have q2 := cell_at (j := 2) hq5 rfl
  have q3 := cell_at (j := 3) hq5 rfl
  have q4 := cell_at (j := 4) hq5 rfl
  have q5 := cell_at (j := 5) hq5 rfl
  have q6 := cell_at (j := 6) hq5 rfl
  have q7 := cell_at (j := 7) hq5 rfl
  have q8 := cell_at (j := 8) hq5 rfl
  have HP5 := Lib.hid hp5
  have HQ5 := Lib.hid hq5
  clear hW5 hb5 hp5 hq5 hbw5
  have fp0 : ∀ p : BelW W5, p.world.cell? ⟨W4.heap.size, 0, none⟩ = some (.int .i64 x.n0) := fun p => (p.h.cell (p := ⟨W4.heap.size, 0, none⟩) hl5).trans p0
  have fp1 : ∀ p : BelW W5, p.world.cell? ⟨W4.heap.size, 1, none⟩ = some (.int .i64 x.n1) := fun p => (p.h.cell (p := ⟨W4.heap.size, 1, none⟩) hl5).trans p1
  have fp2 : ∀ p : BelW W5, p.world.cell? ⟨W4.heap.size, 2, none⟩ = some (.int .i64 x.n2) := fun p => (p.h.cell (p := ⟨W4.heap.size, 2, none⟩) hl5).trans p2
  have fp3 : ∀ p : BelW W5, p.world.cell? ⟨W4.heap.size, 3, none⟩ = some (.int .i64 x.n3) := fun p => (p.h.cell (p := ⟨W4.heap.size, 3, none⟩) hl5).trans p3
  have fp4 : ∀ p : BelW W5, p.world.cell? ⟨W4.heap.size, 4, none⟩ = some (.int .i64 x.n4) := fun p => (p.h.cell (p := ⟨W4.heap.size, 4, none⟩) hl5).trans p4
  have fp5 : ∀ p : BelW W5, p.world.cell? ⟨W4.heap.size, 5, none⟩ = some (.int .i64 x.n5) := fun p => (p.h.cell (p := ⟨W4.heap.size, 5, none⟩) hl5).trans p5
  have fp6 : ∀ p : BelW W5, p.world.cell? ⟨W4.heap.size, 6, none⟩ = some (.int .i64 x.n6) := fun p => (p.h.cell (p := ⟨W4.heap.size, 6, none⟩) hl5).trans p6
  have fp7 : ∀ p : BelW W5, p.world.cell? ⟨W4.heap.size, 7, none⟩ = some (.slice se.a se.n se.c) := fun p => (p.h.cell (p := ⟨W4.heap.size, 7, none⟩) hl5).trans p7
  have fp8 : ∀ p : BelW W5, p.world.cell? ⟨W4.heap.size, 8, none⟩ = some (.slice su.a su.n su.c) := fun p => (p.h.cell (p := ⟨W4.heap.size, 8, none⟩) hl5).trans p8
  have fq0 : ∀ p : BelW W5, p.world.cell? ⟨w.heap.size, 0, none⟩ = some (.int .i64 x.n0) := fun p => (p.h.cell (p := ⟨w.heap.size, 0, none⟩) hw5).trans q0
  have fq1 : ∀ p : BelW W5, p.world.cell? ⟨w.heap.size, 1, none⟩ = some (.int .i64 x.n1) := fun p => (p.h.cell (p := ⟨w.heap.size, 1, none⟩) hw5).trans q1
  have fq2 : ∀ p : BelW W5, p.world.cell? ⟨w.heap.size, 2, none⟩ = some (.int .i64 x.n2) := fun p => (p.h.cell (p := ⟨w.heap.size, 2, none⟩) hw5).trans q2
  have fq3 : ∀ p : BelW W5, p.world.cell? ⟨w.heap.size, 3, none⟩ = some (.int .i64 x.n3) := fun p => (p.h.cell (p := ⟨w.heap.size, 3, none⟩) hw5).trans q3
  have fq4 : ∀ p : BelW W5, p.world.cell? ⟨w.heap.size, 4, none⟩ = some (.int .i64 x.n4) := fun p => (p.h.cell (p := ⟨w.heap.size, 4, none⟩) hw5).trans q4
  have fq5 : ∀ p : BelW W5, p.world.cell? ⟨w.heap.size, 5, none⟩ = some (.int .i64 x.n5) := fun p => (p.h.cell (p := ⟨w.heap.size, 5, none⟩) hw5).trans q5
  have fq6 : ∀ p : BelW W5, p.world.cell? ⟨w.heap.size, 6, none⟩ = some (.int .i64 x.n6) := fun p => (p.h.cell (p := ⟨w.heap.size, 6, none⟩) hw5).trans q6
  have fq7 : ∀ p : BelW W5, p.world.cell? ⟨w.heap.size, 7, none⟩ = some (.slice x.ev.a x.ev.n x.ev.c) := fun p => (p.h.cell (p := ⟨w.heap.size, 7, none⟩) hw5).trans q7
  have fq8 : ∀ p : BelW W5, p.world.cell? ⟨w.heap.size, 8, none⟩ = some (.slice x.us.a x.us.n x.us.c) := fun p => (p.h.cell (p := ⟨w.heap.size, 8, none⟩) hw5).trans q8
  clear hcur p0 q0 p1 q1 p2 q2 p3 q3 p4 q4 p5 q5 p6 q6 p7 q7 p8 q8
  refine wp_region_quiet_bel (by kernel_rfl) (by kernel_rfl) ?_
  repeat (quiet_step (first
    | with_reducible exact Calls.bel_of (HXU.out _ (BelW.h _))
    | with_reducible exact Calls.bel_of (HRU.out _ (BelW.h _))
    | with_reducible exact Calls.bel_of (HXT.out _ (BelW.h _))
    | with_reducible exact Calls.bel_of (HRT.out _ (BelW.h _))
    | with_reducible exact Calls.bel_of (HXF.out _ (BelW.h _))
    | with_reducible exact Calls.bel_of (HRF.out _ (BelW.h _))))
  refine wpQuiet_nil ?_
  intro _ hw'
  obtain ⟨p, rfl⟩ := hw'
  have HP := Lib.hid (HBW5.out.trans (p.h.mono HBW5.out.size))
  clear fp0 fq0 fp1 fq1 fp2 fq2 fp3 fq3 fp4 fq4 fp5 fq5 fp6 fq6 fp7 fq7 fp8 fq8 HXU HRU HXT HRT HXF HRF
  go_wp2_with fail
  go_ret
  exact ⟨rfl, HP.out⟩
theorem asks_calls (w : World) (x : L9) (el ul : List Nm) (name typ : ByteArray) (he : InN w x.ev.a x.ev.n el) (hu : InN w x.us.a x.us.n ul) (hm : Mx w) :
    Calls Try.prog 3 #[.agg x.cells, .string name, .string typ] w fun e w' => e = .returned (.bool true) ∧ Below w.heap.size w w' := by
  by_cases h1 : fewB el = true
  · by_cases h2 : fewB ul = true
    · by_cases h3 : name.size ≤ 100
      · by_cases h4 : typ.size ≤ 100
        · exact asks_in w x el ul name typ he hu hm h1 h2 h3 h4
        · exact asks_out w x el ul name typ he hu hm (.inr (.inr (.inr ⟨h1, h2, h3, by omega⟩)))
      · exact asks_out w x el ul name typ he hu hm (.inr (.inr (.inl ⟨h1, h2, by omega⟩)))
    · exact asks_out w x el ul name typ he hu hm (.inr (.inl ⟨h1, by simpa using h2⟩))
  · exact asks_out w x el ul name typ he hu hm (.inl (by simpa using h1))
end Go.Proofs.Ytiehdfokcnphdaa
