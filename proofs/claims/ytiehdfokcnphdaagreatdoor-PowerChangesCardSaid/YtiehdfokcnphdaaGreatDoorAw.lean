/- The document's example, as the statements of this chapter begin: it is true. -/
import Derived.Test.YtiehdfokcnphdaaGreatDoorRd
namespace Go.Proofs.YtiehdfokcnphdaaGreatDoor
open Go.RowKit

abbrev sAnn : ByteArray := ⟨#[64, 97, 110, 110, 58, 120]⟩
abbrev sBob : ByteArray := ⟨#[64, 98, 111, 98, 58, 120]⟩
def vHundred : V := .mk 2 false 100 ⟨#[]⟩ [] []
def vUsers : V := .mk 5 false 0 ⟨#[]⟩ [] [(sAnn, vHundred)]
def vContent : V := .mk 5 false 0 ⟨#[]⟩ [] [(kUsers, vUsers)]
theorem ann_is : isB 2 sAnn.data.toList = true := by kernel_rfl
theorem content_all : (pts.all fun p => p.num.isNone || (vContent.get p.key).isNone) = true := by kernel_rfl
theorem content_num (i : Nat) (key : ByteArray) (j : Nat) (h : pts[i]? = some ⟨key, some j, none⟩) : vContent.get key = none := by
  have := List.all_eq_true.1 content_all _ (List.mem_of_getElem? h)
  simpa using this
theorem content_num2 : numOf vContent kBan 50 = 50 ∧ numOf vContent kKick 50 = 50 ∧ numOf vContent kRedact 50 = 50 ∧ numOf vContent kInvite 0 = 0 ∧ numOf vContent kState 50 = 50 ∧ numOf vContent kEvent 0 = 0 ∧ numOf vContent kUser 0 = 0 := by
  refine ⟨?_, ?_, ?_, ?_, ?_, ?_, ?_⟩ <;> kernel_rfl
theorem content_events : vContent.get kEvents = none := by kernel_rfl
theorem content_users : UsersAre vContent [⟨sAnn, 100⟩] := .inr ⟨false, 0, ⟨#[]⟩, sAnn, vHundred, by kernel_rfl, rfl, ann_is, by decide, rfl⟩
theorem content_lv (s : Sl) : lvAt vContent 9 s = ⟨50, 50, 50, 0, 50, 0, 0, ⟨none, 0, 0⟩, s⟩ := by
  obtain ⟨h1, h2, h3, h4, h5, h6, h7⟩ := content_num2
  simp [lvAt, h1, h2, h3, h4, h5, h6, h7]
theorem find_ann : findN [⟨sAnn, 100⟩] sAnn = some 100 := by simp [findN, nameIs]
theorem find_bob : findN [⟨sAnn, 100⟩] sBob = none := by
  simp [findN, nameIs]

/-- One member, as a call's argument has it. -/
theorem rep_one {w w' : World} {Q P : Nat → Prop} {m : Mb} {v : V} (h : RepV w Q m.v v) (hw : w' = w.alloc (.cells m.cells 48)) (hP : P w.heap.size) (hq : ∀ g, g < w.heap.size → Q g → P g) :
    RepV w' P ⟨0, false, 0, ⟨#[]⟩, ⟨none, 0, 0⟩, ⟨some ⟨w.heap.size, 0, none⟩, 1, 1⟩⟩ (.mk 0 false 0 ⟨#[]⟩ [] [(m.key, v)]) := by
  subst hw
  refine .mk ⟨0, false, 0, ⟨#[]⟩, ⟨none, 0, 0⟩, ⟨some ⟨w.heap.size, 0, none⟩, 1, 1⟩⟩ [] [(m.key, v)] [] [m] ⟨rfl, by simp, .inl ⟨rfl, rfl⟩⟩ (row_one _ _ _ _ _ m.cells.toList rfl hP rfl) rfl rfl (by simp) ?_ ?_
  · intro i a kv ha hkv
    cases i with
    | zero => simp at ha hkv; subst ha hkv; rfl
    | succ i => simp at ha
  · intro i a kv ha hkv
    cases i with
    | zero =>
      simp at ha hkv
      subst ha hkv
      exact (h.mono hq).same (by simp) (fun g hg _ => Below.heap_alloc _ _ _ hg)
    | succ i => simp at ha

set_option maxRecDepth 100000 in
set_option maxHeartbeats 1600000 in
theorem awake_calls (w : World) (hm : Mx w) : Calls Tryz.prog 4 #[] w fun e w' => e = .returned (.bool true) ∧ Below w.heap.size w w' := by
  have hpos := hm.pos
  have HM := Lib.hid hm
  clear hm
  go_enter Tryz.func4, Tryz.ntmps4
  go_wp2_with fail
  have hb1 : Below w.heap.size w (w.alloc (.cells (Mb.mk sAnn ⟨2, false, 100, ⟨#[]⟩, ⟨none, 0, 0⟩, ⟨none, 0, 0⟩⟩).cells 48)) := (Below.refl _ _).alloc (Nat.le_refl _) _
  have hrep1 : RepV (w.alloc (.cells (Mb.mk sAnn ⟨2, false, 100, ⟨#[]⟩, ⟨none, 0, 0⟩, ⟨none, 0, 0⟩⟩).cells 48)) (fun _ => True) ⟨0, false, 0, ⟨#[]⟩, ⟨none, 0, 0⟩, ⟨some ⟨w.heap.size, 0, none⟩, 1, 1⟩⟩ (.mk 0 false 0 ⟨#[]⟩ [] [(sAnn, vHundred)]) :=
    rep_one (m := ⟨sAnn, ⟨2, false, 100, ⟨#[]⟩, ⟨none, 0, 0⟩, ⟨none, 0, 0⟩⟩⟩) (RepV.leaf w (fun _ => True) 2 false 100 ⟨#[]⟩) rfl trivial (fun _ _ _ => trivial)
  refine (members_calls _ _ ⟨some ⟨w.heap.size, 0, none⟩, 1, 1⟩ [(sAnn, vHundred)] (by simp) (by simp) hrep1).mono ?_
  rintro e w2 ⟨x1, M1, rfl, hx1, hM1, hb2⟩
  obtain rfl := List.perm_singleton.1 hM1
  have HB2 := Lib.hid (hb1.trans (hb2.mono hb1.size))
  have HX1 := Lib.hid (show RepV w2 _ x1 vUsers from hx1)
  clear hb1 hrep1 hx1 hM1 hb2
  go_wp2_with fail
  have hrep2 : RepV ((w2.alloc (.cells x1.cells 44)).alloc (.cells (Mb.mk kUsers x1).cells 48)) (fun _ => True) ⟨0, false, 0, ⟨#[]⟩, ⟨none, 0, 0⟩, ⟨some ⟨(w2.alloc (.cells x1.cells 44)).heap.size, 0, none⟩, 1, 1⟩⟩ (.mk 0 false 0 ⟨#[]⟩ [] [(kUsers, vUsers)]) :=
    rep_one (m := ⟨kUsers, x1⟩) (HX1.out.same (by simp) (fun g hg _ => Below.heap_alloc _ _ _ hg)) rfl trivial (fun _ _ _ => trivial)
  have hb3 : Below w.heap.size w ((w2.alloc (.cells x1.cells 44)).alloc (.cells (Mb.mk kUsers x1).cells 48)) := (HB2.out.alloc HB2.out.size _).alloc (by have := HB2.out.size; simp; omega) _
  have hm2 := members_calls _ _ ⟨some ⟨(w2.alloc (.cells x1.cells 44)).heap.size, 0, none⟩, 1, 1⟩ [(kUsers, vUsers)] (by simp) (by simp) hrep2
  rw [show (w2.alloc (.cells x1.cells 44)).heap.size = w2.heap.size + 1 by simp] at hm2
  refine hm2.mono ?_
  rintro e w4 ⟨x2, M2, rfl, hx2, hM2, hb4⟩
  obtain rfl := List.perm_singleton.1 hM2
  have HB4 := Lib.hid (hb3.trans (hb4.mono hb3.size))
  have HX2 := Lib.hid (show RepV w4 _ x2 vContent from hx2)
  clear hrep2 hb3 hm2 hx2 hM2 hb4 HB2 HX1
  go_wp2_with fail
  have hb5 : Below w.heap.size w (w4.alloc (.cells x2.cells 44)) := HB4.out.alloc HB4.out.size _
  have hrd := read_calls (w4.alloc (.cells x2.cells 44)) _ x2 vContent [⟨sAnn, 100⟩] (HX2.out.same (by simp) (fun g hg _ => Below.heap_alloc _ _ _ hg)) rfl (fun i key j u hp hu => by rw [content_num i key j hp] at hu; cases hu) content_events content_users (HM.out.below hb5 hpos)
  refine hrd.mono ?_
  rintro e w6 ⟨s, rfl, hrow, hb6⟩
  have HB6 := Lib.hid (hb5.trans (hb6.mono hb5.size))
  have HROW := Lib.hid hrow
  clear hb5 hrd hrow hb6 HB4 HX2
  rw [content_lv]
  have HUA := Lib.hid (fun (W : World) (h : Below w6.heap.size w6 W) => user_calls W _ ⟨50, 50, 50, 0, 50, 0, 0, ⟨none, 0, 0⟩, s⟩ [⟨sAnn, 100⟩] sAnn (HROW.out.same h.size (fun g hg _ => h.block g hg)))
  have HUB := Lib.hid (fun (W : World) (h : Below w6.heap.size w6 W) => user_calls W _ ⟨50, 50, 50, 0, 50, 0, 0, ⟨none, 0, 0⟩, s⟩ [⟨sAnn, 100⟩] sBob (HROW.out.same h.size (fun g hg _ => h.block g hg)))
  have HNA := Lib.hid (fun (W : World) => needs_calls W (fun _ => True) ⟨50, 50, 50, 0, 50, 0, 0, ⟨none, 0, 0⟩, s⟩ [] ⟨#[97]⟩ true ⟨rfl, by simp, .inl ⟨rfl, rfl⟩⟩)
  simp only [Lv.cells]
  go_wp2_with fail
  have hb6' : Below w6.heap.size w6 (w6.alloc (.cells #[.int .i64 50, .int .i64 50, .int .i64 50, .int .i64 0, .int .i64 50, .int .i64 0, .int .i64 0, .slice none 0 0, .slice s.a s.n s.c] 33 (0, 0))) := (Below.refl _ _).alloc (Nat.le_refl _) _
  have hu1 := HUA.out _ hb6'
  rw [find_ann] at hu1
  refine hu1.mono ?_
  rintro e w7 ⟨rfl, hb7⟩
  have hx7 := (hb7.block w6.heap.size (by simp)).trans (heap_new w6 _)
  have f7_0 := cell_at (j := 0) hx7 rfl
  have f7_1 := cell_at (j := 1) hx7 rfl
  have f7_2 := cell_at (j := 2) hx7 rfl
  have f7_3 := cell_at (j := 3) hx7 rfl
  have f7_4 := cell_at (j := 4) hx7 rfl
  have f7_5 := cell_at (j := 5) hx7 rfl
  have f7_6 := cell_at (j := 6) hx7 rfl
  have f7_7 := cell_at (j := 7) hx7 rfl
  have f7_8 := cell_at (j := 8) hx7 rfl
  have hlt7 := (Array.getElem?_eq_some_iff.1 hx7).1
  have HX7 := Lib.hid hx7
  have HB7 := Lib.hid (hb6'.trans (hb7.mono (by simp)))
  clear hx7 hb7 hb6' hu1 HUA
  go_wp2_with fail
  have hu2 := HUB.out _ HB7.out
  rw [find_bob] at hu2
  refine hu2.mono ?_
  rintro e w8 ⟨rfl, hb8⟩
  have hx8 := (hb8.block w6.heap.size (by exact hlt7)).trans HX7.out
  have f8_0 := cell_at (j := 0) hx8 rfl
  have f8_1 := cell_at (j := 1) hx8 rfl
  have f8_2 := cell_at (j := 2) hx8 rfl
  have f8_3 := cell_at (j := 3) hx8 rfl
  have f8_4 := cell_at (j := 4) hx8 rfl
  have f8_5 := cell_at (j := 5) hx8 rfl
  have f8_6 := cell_at (j := 6) hx8 rfl
  have f8_7 := cell_at (j := 7) hx8 rfl
  have f8_8 := cell_at (j := 8) hx8 rfl
  have hlt8 := (Array.getElem?_eq_some_iff.1 hx8).1
  have HX8 := Lib.hid hx8
  have HB8 := Lib.hid (HB7.out.trans (hb8.mono HB7.out.size))
  clear hx8 hb8 hu2 HUB hlt7 f7_0 f7_1 f7_2 f7_3 f7_4 f7_5 f7_6 f7_7 f7_8
  go_wp2_with fail
  refine (HNA.out w8).mono ?_
  rintro e w9 ⟨rfl, hb9⟩
  have HB9 := Lib.hid (HB8.out.trans (hb9.mono HB8.out.size))
  clear hb9 HNA hlt8 f8_0 f8_1 f8_2 f8_3 f8_4 f8_5 f8_6 f8_7 f8_8
  go_wp2_with fail
  refine (none_calls w9 sAnn (by rw [ByteArray.toList_eq]; decide)).mono ?_
  rintro e w10 ⟨s', rfl, hrow', hb10⟩
  have HB10 := Lib.hid (HB9.out.trans (hb10.mono HB9.out.size))
  have hu3 := user_calls w10 _ { lvNone with users := s' } [⟨sAnn, 100⟩] sAnn hrow'
  rw [find_ann] at hu3
  have HU3 := Lib.hid hu3
  clear hrow' hb10 hu3
  go_wp2_with fail
  refine HU3.out.mono ?_
  rintro e w11 ⟨rfl, hb11⟩
  have HB11 := Lib.hid (HB10.out.trans (hb11.mono HB10.out.size))
  clear hb11 HU3
  go_wp2_with fail
  go_ret
  exact ⟨rfl, HB6.out.trans (HB11.out.mono HB6.out.size)⟩
end Go.Proofs.YtiehdfokcnphdaaGreatDoor
