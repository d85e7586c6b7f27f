/- Tell: of an error that is one: its code, the fields about it. -/
import Derived.Test.YtiehdfokcnphdaaGreatDoorTl
set_option linter.unusedVariables false
set_option linter.unusedSimpArgs false
namespace Go.Proofs.YtiehdfokcnphdaaGreatDoor
open Go.RowKit

structure TellS (w : World) (b2 b3 fb : Nat) (c : Int) (p1 : List ByteArray) (wr : World) : Prop where
  e : wr.heap[b3]? = some (.cells #[.int .i64 c, .int .i64 (-1), .string (ofL (pathL p1))] 36 (0, 0))
  r : wr.heap[b2]? = some (.cells EZ 36 (0, 0))
  v : ∃ old, Var wr fb 71 old
  b : Below w.heap.size w wr
theorem path_app (p q : List ByteArray) : pathL (p ++ q) = pathL p ++ pathL q := by simp [pathL]
theorem path_on (p : List ByteArray) (f : ByteArray) : ofL (pathL p) ++ (⟨#[47]⟩ ++ f) = ofL (pathL (p ++ [f])) := by
  apply ba_eq
  rw [path_app]
  simp [pathL, ofL]
set_option maxRecDepth 100000 in
set_option maxHeartbeats 8000000 in
theorem tell_flt (w : World) (Q : Nat → Prop) (v : Value) (p : List ByteArray) (c : Int) (hf : Flt w Q v p c) (het : Et w) (hp : (pathL p).length ≤ 1000000) :
    Calls Tryz.prog 9 #[v] w fun e w' => e = .returned (erV (some (p, c))) ∧ Below w.heap.size w w' := by
  obtain ⟨t0, u0, hv0⟩ := hf.shape
  subst hv0
  have HF := Lib.hid hf
  have HET := Lib.hid het
  have HEP := Lib.hid het.pos
  have HP := Lib.hid hp
  clear hf het hp
  go_enter Tryz.func9, Tryz.ntmps9
  go_wp2_with fail
  refine (rnone_calls _).mono ?_
  rintro e w1 ⟨rfl, hb⟩
  have hr : w1.heap[w.heap.size]? = some (.cells EZ 36 (0, 0)) := (hb.block _ (by simp)).trans (heap_new_at w _ _ rfl)
  have HB := Lib.hid (((Below.refl w.heap.size w).alloc (Nat.le_refl _) (.cells EZ 36)).trans (hb.mono (by simp)))
  have hlt := blk_lt hr
  have HR := Lib.hid hr
  clear hr hb
  simp only [erV, eCells]
  go_wp2_with fail
  have hbW2 : Below w.heap.size w ((w1.alloc (.cells #[.int .i64 (-1), .int .i64 (-1), .string ⟨#[]⟩] 36)).alloc (.cells #[.int .i64 0] 66)) := (HB.out.alloc HB.out.size _).alloc (by simp; omega) _
  refine (As_code ((w1.alloc (.cells #[.int .i64 (-1), .int .i64 (-1), .string ⟨#[]⟩] 36)).alloc (.cells #[.int .i64 0] 66)) (w1.heap.size + 1) Q _ p c (.int .i64 0) (HF.out.same (fun g hg _ => hbW2.block g hg)) (heap_new_at _ _ _ (by simp)) (HET.out.below hbW2 HEP.out)).mono ?_
  rintro e w3 ⟨rfl, hv, hfr⟩
  have he3 : w3.heap[w1.heap.size]? = some (.cells #[.int .i64 (-1), .int .i64 (-1), .string ⟨#[]⟩] 36 (0, 0)) := (hfr.block _ (by simp; omega) (by show ¬ w1.heap.size = w1.heap.size + 1; omega)).trans ((heap_old_at _ _ _ (by simp)).trans (heap_new_at w1 _ _ rfl))
  have hr3 : w3.heap[w.heap.size]? = some (.cells EZ 36 (0, 0)) := (hfr.block _ (by simp; omega) (by show ¬ w.heap.size = w1.heap.size + 1; omega)).trans ((heap_old_at _ _ _ (by simp; omega)).trans ((heap_old_at _ _ _ hlt).trans HR.out))
  have hb3 : Below w.heap.size w w3 := hbW2.trans (hfr.to_below (by simp; omega) (fun k hk e => by omega))
  have h3lt := blk_lt he3
  have kc : w3.cell? ⟨w1.heap.size + 1, 0, none⟩ = some (.int .i64 c) := cell_at hv rfl
  have ke := cell_at (j := 0) he3 rfl
  have kz := frozen_at (j := 0) he3
  have HE3 := Lib.hid he3
  have HR3 := Lib.hid hr3
  have HB3 := Lib.hid hb3
  have HW1 := Lib.hid HB.out.size
  clear hbW2 hv hfr he3 hr3 hb3 HR HB
  go_wp2_with fail
  have hS : TellS w w.heap.size w1.heap.size w3.heap.size c [] ((w3.setCell ⟨w1.heap.size, 0, none⟩ (.int .i64 c)).alloc (.cells #[.pointer none] 71)) := by
    refine ⟨(heap_old_at _ _ _ (by simpa using h3lt)).trans (setCell_heap_at HE3.out), (heap_old_at _ _ _ (by simp; omega)).trans ((Below.heap_setCell _ _ _ _ (by show w.heap.size ≠ w1.heap.size; omega)).trans HR3.out), ⟨.pointer none, heap_new_at _ _ _ (by simp)⟩, ?_⟩
    exact (HB3.out.trans (Fr.to_below (S := fun i => i = w1.heap.size) (Fr.setCell w3 ⟨w1.heap.size, 0, none⟩ (.int .i64 c) rfl) HB3.out.size (fun k hk e => by omega))).alloc (by simp; omega) _
  have HS := Lib.hid hS
  clear hS kc ke kz HE3 HR3 HB3
  go_loopw [0] (fun v wr => ∃ p1 p2, p1 ++ p2 = p ∧ Flt w Q v p2 c ∧ TellS w w.heap.size w1.heap.size w3.heap.size c p1 wr) (fun v _ => fdepth w p.length v)
  case atStart => exact ⟨[], p, rfl, HF.out, HS.out⟩
  case round =>
    obtain ⟨p1, p2, hpp, hf, hs⟩ := hrel
    have HPP := Lib.hid hpp
    have HD := Lib.hid (fdepth_of hf p.length (by rw [← hpp]; simp))
    obtain ⟨old, hv⟩ := hs.v
    have HS1 := Lib.hid hs
    have hwr := blk_lt hs.e
    have hwv := blk_lt hv
    cases hf with
    | code =>
      have HV := Lib.hid hv
      clear hpp hs hv HS HF
      go_wp2_with fail
      refine (As_miss wr w3.heap.size c old HV.out (HET.out.below HS1.out.b HEP.out)).mono ?_
      rintro e w4 ⟨rfl, hb⟩
      have hE := (hb.block _ hwr).trans HS1.out.e
      have hR := (hb.block _ (blk_lt HS1.out.r)).trans HS1.out.r
      have hV := (hb.block _ hwv).trans HV.out
      have HB4 := Lib.hid (HS1.out.b.trans (hb.mono HS1.out.b.size))
      have e0 : w4.cell? ⟨w1.heap.size, 0, none⟩ = some (.int .i64 c) := cell_at hE rfl
      have e1 : w4.cell? ⟨w1.heap.size, 1, none⟩ = some (.int .i64 (-1)) := cell_at hE rfl
      have e2 : w4.cell? ⟨w1.heap.size, 2, none⟩ = some (.string (ofL (pathL p1))) := cell_at hE rfl
      have r0 : w4.cell? ⟨w.heap.size, 0, none⟩ = some (.int .i64 0) := cell_at hR rfl
      have r1 : w4.cell? ⟨w.heap.size, 1, none⟩ = some (.int .i64 0) := cell_at hR rfl
      have r2 : w4.cell? ⟨w.heap.size, 2, none⟩ = some (.string ⟨#[]⟩) := cell_at hR rfl
      have rz : ∀ j, w4.frozen? ⟨w.heap.size, j, none⟩ = false := fun j => frozen_at hR
      have v0 : w4.cell? ⟨w3.heap.size, 0, none⟩ = some old := cell_at hV rfl
      have HR4 := Lib.hid hR
      clear hE hR hV hb
      go_wp2_with fail
      refine bodyPost_ret (res_E' rfl _ _ w.heap.size #[.int .i64 c, .int .i64 (-1), .string (ofL (pathL p1))] rfl (row3_heap HR4.out rfl) rfl) rfl ?_
      refine ⟨?_, row3_below HB4.out (Nat.le_refl _) (Nat.le_refl _)⟩
      have hpe : p1 = p := by rw [← HPP.out]; simp
      rw [hpe]
    | fault g f v' p'' _ hg hQ h =>
      have HG := Lib.hid hg
      have HH := Lib.hid h
      have HV := Lib.hid hv
      have hgl := blk_lt hg
      obtain ⟨t1, u1, hv1⟩ := h.shape
      subst hv1
      have hsz : (ofL (pathL p1)).size + (1 + f.size) ≤ 1000000 := by
        have h1 := HP.out
        rw [← hpp, path_app] at h1
        rw [path_size]
        simp [pathL] at h1 ⊢
        have h2 := size_list f
        simp at h2
        omega
      have HST := Lib.hid (path_on p1 f)
      clear hpp hs hv HS HF hg h hQ
      go_wp2_with fail
      refine (As_fault wr w3.heap.size ⟨g, 0, none⟩ old HV.out (HET.out.below HS1.out.b HEP.out)).mono ?_
      rintro e w4 ⟨rfl, hv4, hfr⟩
      have hE := (hfr.block _ hwr (by show ¬ w1.heap.size = w3.heap.size; omega)).trans HS1.out.e
      have hR := (hfr.block _ (blk_lt HS1.out.r) (by show ¬ w.heap.size = w3.heap.size; omega)).trans HS1.out.r
      have hb4 : Below w.heap.size w w4 := HS1.out.b.trans (hfr.to_below HS1.out.b.size (fun k hk e => by omega))
      have hG := (hb4.block _ hgl).trans HG.out
      have e1 : w4.cell? ⟨w1.heap.size, 1, none⟩ = some (.int .i64 (-1)) := cell_at hE rfl
      have e2 : w4.cell? ⟨w1.heap.size, 2, none⟩ = some (.string (ofL (pathL p1))) := cell_at hE rfl
      have ez : ∀ j, w4.frozen? ⟨w1.heap.size, j, none⟩ = false := fun j => frozen_at hE
      have v0 : w4.cell? ⟨w3.heap.size, 0, none⟩ = some (.pointer (some ⟨g, 0, none⟩)) := cell_at hv4 rfl
      have g0 : w4.cell? ⟨g, 0, none⟩ = some (.int .i64 (-1)) := cell_at hG rfl
      have g1 : w4.cell? ⟨g, 1, none⟩ = some (.string f) := cell_at hG rfl
      have g2 : w4.cell? ⟨g, 2, none⟩ = some (.iface t1 u1) := cell_at hG rfl
      have HE4 := Lib.hid hE
      have HR4 := Lib.hid hR
      have HV4 := Lib.hid hv4
      have HB4 := Lib.hid hb4
      clear hE hR hb4 hG hv4 hfr
      have hz : ¬ 9223372036854775807 < 1 + f.size := by omega
      have hz2 : ¬ 9223372036854775807 < (ofL (pathL p1)).size + (1 + f.size) := by omega
      have HSZ := Lib.hid hsz
      clear hsz
      have hfin : TellS w w.heap.size w1.heap.size w3.heap.size c (p1 ++ [f]) ((w4.setCell ⟨w1.heap.size, 2, none⟩ (.string (ofL (pathL p1) ++ (⟨#[47]⟩ ++ f)))).drew) := ⟨by
          show (w4.setCell _ _).heap[w1.heap.size]? = _
          rw [setCell_heap_at HE4.out, HST.out]; rfl,
        (Below.heap_setCell _ _ _ _ (by show w.heap.size ≠ w1.heap.size; omega)).trans HR4.out,
        ⟨_, (Below.heap_setCell _ _ _ _ (by show w3.heap.size ≠ w1.heap.size; omega)).trans HV4.out⟩,
        (HB4.out.trans (Fr.to_below (S := fun i => i = w1.heap.size) (Fr.setCell w4 ⟨w1.heap.size, 2, none⟩ _ rfl) HB4.out.size (fun k hk e => by omega))).drew⟩
      have HFIN := Lib.hid hfin
      have hmeas : fdepth w p.length (.iface t1 u1) < fdepth w p.length (.iface 71 (.pointer (some ⟨g, 0, none⟩))) := by
        have h1 := HPP.out
        have h2 : p''.length + 1 ≤ p.length := by rw [← h1]; simp
        rw [HD.out, fdepth_of HH.out p.length (by omega)]
        simp
      have HME := Lib.hid hmeas
      clear hfin hmeas
      have hp2 : (p1 ++ [f]) ++ p'' = p := by rw [← HPP.out]; simp
      have HP2 := Lib.hid hp2
      clear hp2
      by_cases hfe : f.size = 0
      · have hfe2 : f = ⟨#[]⟩ := ByteArray.ext (Array.size_eq_zero_iff.1 hfe)
        subst hfe2
        clear hfe
        go_wp2_with fail
        go_region
        all_goals (go_wp2_with fail)
        all_goals exact ⟨⟨_, p'', HP2.out, HH.out, HFIN.out⟩, HME.out⟩
      · have hemp : f.data.toList.isEmpty = false := by
          cases h : f.data.toList with
          | nil => have := size_list f; rw [h] at this; simp at this; omega
          | cons a b => rfl
        have hne : ¬ f.toList = [] := by
          rw [ByteArray.toList_eq]
          intro e
          rw [e] at hemp
          cases hemp
        have hne2 : f.toList.isEmpty = false := by rw [ByteArray.toList_eq]; exact hemp
        clear hemp hfe
        go_wp2_with fail
        go_region
        all_goals (go_wp2_with fail)
        all_goals exact ⟨⟨_, p'', HP2.out, HH.out, HFIN.out⟩, HME.out⟩
end Go.Proofs.YtiehdfokcnphdaaGreatDoor
