/- PageKeeps, the ways that keep nothing (no draw, or more than 60), and all ways joined. -/
import Derived.Test.YtefacagkjcmeeaaDoorK1
namespace Go.Proofs.YtefacagkjcmeeaaDoor
open Go.RowKit I

set_option maxRecDepth 100000 in
theorem keeps_short (w : World) (A : Option Addr) (n c : Nat) (a0 a1 a2 thing : Int) (h00 : 0 ≤ a0) (h01 : a0 ≤ 255) (h10 : 0 ≤ a1) (h11 : a1 ≤ 255) (h20 : 0 ≤ a2) (h21 : a2 ≤ 255) (hn : n ≤ 9223372036854775807) (htab : Tab w) (hno : n = 0 ∨ 60 < n) :
    Calls Tryd.prog 3 #[.agg #[.int .u8 a0, .int .u8 a1, .int .u8 a2], .slice A n c, .int .i64 thing] w fun e w' => e = .returned (.bool true) ∧ Below w.heap.size w w' := by
  have hbox : Below w.heap.size w (w.alloc (.cells #[.int .u8 a0, .int .u8 a1, .int .u8 a2] 22)) := (Below.refl _ _).alloc (Nat.le_refl _) _
  have HA := Lib.hid (fun W (h : Below w.heap.size w W) => awake_calls W (htab.below h))
  have hpos := htab.pos
  have HBOX := Lib.hid hbox
  clear htab hbox
  have hcase : (((n : Int) == 0) = true) ∨ (((n : Int) == 0) = false ∧ decide ((60 : Int) < n) = true) := by
    rcases hno with rfl | h
    · exact .inl rfl
    · exact .inr ⟨beq_eq_false_iff_ne.2 (by omega), by simp; omega⟩
  clear hno
  go_enter Tryd.func3, Tryd.ntmps3
  go_wp2_with fail
  go_quiet (fail)
  go_wp2_with fail
  have hb1 : Below w.heap.size w ((w.alloc (.cells #[.int .u8 a0, .int .u8 a1, .int .u8 a2] 22)).drewN nq) := below_drewN' HBOX.out nq
  refine (HA.out _ hb1).mono ?_
  rintro e w1 ⟨rfl, hb⟩
  have HB1 := Lib.hid (hb1.trans (hb.mono hb1.size))
  clear hb1 hb HBOX
  rcases hcase with hz | ⟨hz, hz2⟩
  all_goals
    go_wp2_with fail
    refine (HA.out _ HB1.out).mono ?_
    rintro e w2 ⟨rfl, hb⟩
    have HB2 := Lib.hid (HB1.out.trans (hb.mono HB1.out.size))
    clear hb HB1
    go_wp2_with fail
    go_ret
    exact ⟨rfl, HB2.out⟩
end Go.Proofs.YtefacagkjcmeeaaDoor
