/- power: read. -/
import Derived.Test.YtiehdfokcnphdaaGreatDoorPr
namespace Go.Proofs.YtiehdfokcnphdaaGreatDoor
open Go.RowKit

theorem cell_at {w : World} {g E j : Nat} {cs : Array Value} {v : Value} (h : w.heap[g]? = some (.cells cs E (0, 0))) (hj : cs[j]? = some v) : w.cell? ⟨g, j, none⟩ = some v := by
  simp [World.cell?, h, hj]
theorem frozen_at {w : World} {g E j : Nat} {cs : Array Value} (h : w.heap[g]? = some (.cells cs E (0, 0))) : w.frozen? ⟨g, j, none⟩ = false := by
  simp [World.frozen?, h]

set_option maxRecDepth 100000 in
theorem read_num (w : World) (g j : Nat) (key : ByteArray) (x : V6) (cs : Array Value) (hx : x.kind = 2) (hg : w.heap[g]? = some (.cells cs 33 (0, 0))) (hj : j < cs.size) :
    Calls Tryz.prog 32 #[.agg #[.string key, .pointer (some ⟨g, j, none⟩), .pointer none], .agg x.cells] w
      fun e w' => e = .returned .nilIface ∧ w'.heap[g]? = some (.cells (cs.setIfInBounds j (.int .i64 x.int)) 33 (0, 0)) ∧ Fr (fun k => k = g) w w' := by
  have hgl := (Array.getElem?_eq_some_iff.1 hg).1
  have hc := cell_at hg (Array.getElem?_eq_getElem hj)
  generalize cs[j] = v0 at hc
  have hfz := frozen_at (j := j) hg
  have HG := Lib.hid hg
  clear hg
  go_enter Tryz.func32, Tryz.ntmps32
  go_wp2_with fail
  go_ret
  refine ⟨rfl, ?_, ?_⟩
  · rw [Below.heap_alloc _ _ _ (by simp [World.setCell]; omega), Below.heap_alloc _ _ _ (by simp [World.setCell]; omega)]
    exact setCell_heap_at HG.out
  · exact ((Fr.setCell (S := fun k => k = g) w ⟨g, j, none⟩ _ rfl).trans (Fr.alloc _ _)).trans (Fr.alloc _ _)

set_option maxRecDepth 100000 in
set_option maxHeartbeats 1600000 in
theorem read_list (w : World) (P : Nat → Prop) (g j : Nat) (x : V6) (m : Mb) (cs : Array Value) (hx : x.kind = 5) (hrow : RowOf w P 48 7 x.map (mcells [m])) (hk : isB 2 m.key.data.toList = true) (hks : m.key.size < 4294967281) (hmk : m.v.kind = 2) (hm : Mx w)
    (hg : w.heap[g]? = some (.cells cs 33 (0, 0))) (hj : j < cs.size) :
    Calls Tryz.prog 32 #[.agg #[.string ⟨#[117, 115, 101, 114, 115]⟩, .pointer none, .pointer (some ⟨g, j, none⟩)], .agg x.cells] w
      fun e w' => e = .returned .nilIface ∧ ∃ s : Sl, w'.heap[g]? = some (.cells (cs.setIfInBounds j (.slice s.a s.n s.c)) 33 (0, 0)) ∧ RowOf w' (fun k => w.heap.size ≤ k) 91 2 s (ncells [⟨m.key, m.v.int⟩]) ∧ Fr (fun k => k = g) w w' := by
  have hgl := (Array.getElem?_eq_some_iff.1 hg).1
  have hpos := hm.pos
  have HN := Lib.hid (fun (W : World) (h : Below w.heap.size w W) => names_one W P x m hx (hrow.same h.size (fun g hg _ => h.block g hg)) hk hks hmk (hm.below h hpos))
  have hc := cell_at hg (Array.getElem?_eq_getElem hj)
  generalize cs[j] = v0 at hc
  have hfz := frozen_at (j := j) hg
  have HG := Lib.hid hg
  clear hg hrow hk hm hx hmk
  go_enter Tryz.func32, Tryz.ntmps32
  go_wp2_with fail
  have hb2 : Below w.heap.size w ((w.alloc (.cells #[.string ⟨#[117, 115, 101, 114, 115]⟩, .pointer none, .pointer (some ⟨g, j, none⟩)] 61)).alloc (.cells x.cells 44)) := ((Below.refl _ _).alloc (Nat.le_refl _) _).alloc (by simp) _
  have hp2 : ((w.alloc (.cells #[.string ⟨#[117, 115, 101, 114, 115]⟩, .pointer none, .pointer (some ⟨g, j, none⟩)] 61)).alloc (.cells x.cells 44)).heap[w.heap.size]? = some (.cells #[.string ⟨#[117, 115, 101, 114, 115]⟩, .pointer none, .pointer (some ⟨g, j, none⟩)] 61 (0, 0)) := (Below.heap_alloc _ _ _ (by simp)).trans (heap_new _ _)
  have HB2 := Lib.hid hb2
  have HP2 := Lib.hid hp2
  clear hb2 hp2
  go_cut [4] (fun c4 wx => c4 = .nilIface ∧ ∃ s : Sl, wx.heap[g]? = some (.cells (cs.setIfInBounds j (.slice s.a s.n s.c)) 33 (0, 0)) ∧ RowOf wx (fun k => w.heap.size ≤ k) 91 2 s (ncells [⟨m.key, m.v.int⟩]) ∧ Fr (fun k => k = g) w wx)
  case first =>
    go_region_law (go_simp; go_at_call 53; refine (HN.out _ HB2.out.drew).mono ?_; rintro e wv ⟨s, rfl, hrw, hb0⟩
                   have hb : Below ((w.alloc (.cells #[.string ⟨#[117, 115, 101, 114, 115]⟩, .pointer none, .pointer (some ⟨g, j, none⟩)] 61)).alloc (.cells x.cells 44)).heap.size ((w.alloc (.cells #[.string ⟨#[117, 115, 101, 114, 115]⟩, .pointer none, .pointer (some ⟨g, j, none⟩)] 61)).alloc (.cells x.cells 44)) wv := ⟨hb0.os, hb0.tape, hb0.output, hb0.size, hb0.block⟩
                   have hbw : Below w.heap.size w wv := HB2.out.trans (hb.mono HB2.out.size)
                   have hpv := (hb.block w.heap.size (by simp; omega)).trans HP2.out
                   have p0 := cell_at (j := 0) hpv rfl
                   have p2 := cell_at (j := 2) hpv rfl
                   have hgv := (hbw.block g hgl).trans HG.out
                   have hc := (hbw.cell (p := ⟨g, j, none⟩) (by exact hgl)).trans hc
                   have hfz := frozen_at (j := j) hgv
                   have hglv := Nat.lt_of_lt_of_le hgl hbw.size
                   have HGV := Lib.hid hgv
                   have HBW := Lib.hid hbw
                   have HRW := Lib.hid hrw
                   clear hb hb0 hbw hpv hgv hrw)
    all_goals
      go_wp2_with fail
      go_meet
      refine ⟨rfl, s, setCell_heap_at HGV.out, ?_, (Fr.of_below HBW.out).trans (Fr.setCell (S := fun k => k = g) _ ⟨g, j, none⟩ _ rfl)⟩
      exact (HRW.out.same (by simp [World.setCell]) (fun k hk hp => Below.heap_setCell _ _ _ _ (fun e => by subst e; simp at hp; omega))).mono (fun k _ hk => by simp at hk; omega)
  case rest =>
    obtain ⟨rfl, s, h1, h2, h3⟩ := hcut
    have H1 := Lib.hid h1
    have H2 := Lib.hid h2
    have H3 := Lib.hid h3
    clear h1 h2 h3 hc hfz
    go_wp2_with fail
    go_ret
    exact ⟨rfl, s, H1.out, H2.out, H3.out⟩
end Go.Proofs.YtiehdfokcnphdaaGreatDoor
