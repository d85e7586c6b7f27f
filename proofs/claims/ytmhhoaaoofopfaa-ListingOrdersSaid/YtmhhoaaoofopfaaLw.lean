/- Chapter 18's example: awake. -/
import Derived.Test.YtmhhoaaoofopfaaLa
set_option linter.unusedVariables false
set_option linter.unusedSimpArgs false
namespace Go.Proofs.Ytmhhoaaoofopfaa
open Go.RowKit

def rA : ByteArray := ⟨#[33, 97, 58, 120]⟩
def rB : ByteArray := ⟨#[33, 98, 58, 120]⟩
def smA : Sm := ⟨rA, ⟨#[]⟩, ⟨#[]⟩, ⟨#[]⟩, ⟨#[]⟩, ⟨#[]⟩, ⟨#[]⟩, 5, false, false⟩
def smB : Sm := ⟨rB, ⟨#[]⟩, ⟨#[]⟩, ⟨#[]⟩, ⟨#[]⟩, ⟨#[]⟩, ⟨#[]⟩, 7, false, false⟩
theorem LsAt.all {w : World} {B : Nat} {P : Nat → Prop} {g bk bs : Nat} {v : Value} {most : Int} {kn sh : List (ByteArray × Value)} {od : List Sm} (h : LsAt w P g bk bs v most kn sh od) (hP : ∀ i, P i → B ≤ i) : LsAt w (fun i => B ≤ i) g bk bs v most kn sh od := h.mono (fun i _ hi => hP i hi)
theorem order_A : inL (some smA) true [] = [smA] := rfl
theorem order_B : inL (some smB) true [smA] = [smB, smA] := by kernel_rfl
theorem place_A : posS smA [smB, smA] = 1 := by kernel_rfl
theorem found_A : foundS smA [smB, smA] = true := by kernel_rfl
theorem valid_A : isB 1 rA.data.toList = true := by decide +kernel
theorem valid_B : isB 1 rB.data.toList = true := by decide +kernel
abbrev shAB : List (ByteArray × Value) := putS rB (.int .i64 1) (putS rA (.int .i64 1) [])
abbrev knAB : List (ByteArray × Value) := putS smB.room (.agg smB.cells) (putS smA.room (.agg smA.cells) [])
set_option maxRecDepth 100000 in
set_option maxHeartbeats 4000000 in
theorem awake_calls (w : World) (hm : Mx w) : Calls Try.prog 4 #[] w fun e w' => e = .returned (.bool true) ∧ Below w.heap.size w w' := by
  have HM := Lib.hid hm
  have HP := Lib.hid hm.pos
  clear hm
  go_enter Try.func4, Try.ntmps4
  go_wp2_with fail
  refine (new_calls w 5 (by omega) (by omega)).mono ?_
  rintro e w1 ⟨g, bk, bs, rfl, hl, hb⟩
  have H1 := Lib.hid hl
  have B1 := Lib.hid hb
  have hg0 := hl.pg
  clear hl hb
  go_wp2_with fail
  refine (show_calls H1.out rA (by decide) (HM.out.below B1.out HP.out) valid_A rfl (by decide) none rfl (by simp) (by simp)).mono ?_
  rintro e w2 ⟨rfl, v2, hl, hf⟩
  have H2 := Lib.hid (hl.all (B := w.heap.size) (fun i hi => hi.elim id (fun h => Nat.le_trans B1.out.size h)))
  have B2 := Lib.hid (B1.out.trans (hf.to_below B1.out.size (fun k hk h => by omega)))
  clear hl hf
  go_wp2_with fail
  refine (show_calls H2.out rB (by decide) (HM.out.below B2.out HP.out) valid_B (by kernel_rfl) (by decide) none rfl (by simp [inL]) (by decide)).mono ?_
  rintro e w3 ⟨rfl, v3, hl, hf⟩
  have H3 := Lib.hid (hl.all (B := w.heap.size) (fun i hi => hi.elim id (fun h => Nat.le_trans B2.out.size h)))
  have B3 := Lib.hid (B2.out.trans (hf.to_below B2.out.size (fun k hk h => by omega)))
  clear hl hf
  go_wp2_with fail
  refine (update_calls H3.out smA (by decide) rfl true (by kernel_rfl) (by simp [inL]) (by simp)).mono ?_
  rintro e w4 ⟨rfl, v4, hl, hf⟩
  have H4 := Lib.hid (hl.all (B := w.heap.size) (fun i hi => hi.elim id (fun h => Nat.le_trans B3.out.size h)))
  have B4 := Lib.hid (B3.out.trans (hf.to_below B3.out.size (fun k hk h => by omega)))
  clear hl hf
  go_wp2_with fail
  refine (update_calls H4.out smB (by decide) (by kernel_rfl) true (by kernel_rfl) (by simp [inL, insS_]) (by decide)).mono ?_
  rintro e w5 ⟨rfl, v5, hl, hf⟩
  have hl5 : LsAt w5 (fun i => w.heap.size ≤ i) g bk bs v5 5 knAB shAB [smB, smA] := by
    have := hl.all (B := w.heap.size) (fun i hi => hi.elim id (fun h => Nat.le_trans B4.out.size h))
    rw [← order_B]
    exact this
  have H5 := Lib.hid hl5
  have B5 := Lib.hid (B4.out.trans (hf.to_below B4.out.size (fun k hk h => by omega)))
  clear hl hf hl5
  go_wp2_with fail
  refine (lall_calls H5.out (by simp)).mono ?_
  rintro e w6 ⟨s, rfl, hr, hb⟩
  have H6 := Lib.hid (H5.out.below hb)
  have B6 := Lib.hid (B5.out.trans (hb.mono B5.out.size))
  obtain ⟨A, n, c⟩ := s
  have hn : n = 2 := hr.1
  subst hn
  obtain ⟨r, rfl⟩ : ∃ r, A = some ⟨r, 0, none⟩ := by
    rcases hr.2.2 with ⟨_, hnil⟩ | ⟨r, h1, _⟩
    · cases hnil
    · exact ⟨r, h1⟩
  have c0 : w6.cell? ⟨r, 0, none⟩ = some (.string ⟨#[33, 98, 58, 120]⟩) := (hr.at rfl).2.2.cell (i := 0) (d := 0) (show (smc [smB, smA])[0]? = some smB.cells.toList from rfl) (show smB.cells.toList[0]? = some (.string rB) from rfl)
  have HRK := Lib.hid (rank_calls H6.out rA (by decide) smA (by kernel_rfl) (by simp) found_A)
  rw [place_A] at HRK
  clear hr hb
  simp only [Sl.val]
  go_wp2_with fail
  refine HRK.out.mono ?_
  rintro e w7 ⟨rfl, hb⟩
  have B7 := Lib.hid (B6.out.trans (hb.mono B6.out.size))
  clear hb c0 HRK
  go_wp2_with fail
  go_ret
  exact ⟨rfl, B7.out⟩
end Go.Proofs.Ytmhhoaaoofopfaa
