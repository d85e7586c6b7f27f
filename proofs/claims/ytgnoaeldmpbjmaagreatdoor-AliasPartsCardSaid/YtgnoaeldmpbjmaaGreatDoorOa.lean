/- The document's example, as the statements of this chapter begin: it is true. -/
import Derived.Test.YtgnoaeldmpbjmaaGreatDoorAl
import Derived.Test.YtgnoaeldmpbjmaaGreatDoorEi
set_option linter.unusedVariables false
namespace Go.Proofs.YtgnoaeldmpbjmaaGreatDoor
open Go.RowKit

abbrev sX : ByteArray := ⟨#[120]⟩
abbrev sW : ByteArray := ⟨#[35, 119, 58, 120]⟩
abbrev sA : ByteArray := ⟨#[33, 97, 58, 120]⟩
abbrev sB : ByteArray := ⟨#[33, 98, 58, 120]⟩
abbrev sAnn : ByteArray := ⟨#[64, 97, 110, 110, 58, 120]⟩
theorem x_server : serverB sX.data.toList = true := by kernel_rfl
theorem w_is : isB 3 sW.data.toList = true := by kernel_rfl
theorem a_is : isB 1 sA.data.toList = true := by kernel_rfl
theorem b_is : isB 1 sB.data.toList = true := by kernel_rfl
theorem ann_is : isB 2 sAnn.data.toList = true := by kernel_rfl
theorem w_of : ((ofL (ofB sW.data.toList)).toList == sX.toList) = true := by kernel_rfl
theorem w_own (y : ByteArray) (z : ByteArray) : getE [⟨sW, y, z⟩] sW = some ⟨sW, y, z⟩ := by
  unfold getE
  simp [aliasIs]
theorem fr_below {w w1 w2 : World} {b : Nat} (hb : Below w.heap.size w w1) (hbb : w.heap.size ≤ b) (hf : Fr (fun i => i = b) w1 w2) : Below w.heap.size w w2 :=
  hb.trans (hf.to_below hb.size (fun k hk e => by omega))
set_option maxRecDepth 100000 in
set_option maxHeartbeats 1600000 in
theorem awake_calls (w : World) (hm : Mx w) : Calls Tryz.prog 6 #[] w fun e w' => e = .returned (.bool true) ∧ Below w.heap.size w w' := by
  have HPOS := Lib.hid hm.pos
  have HM := Lib.hid hm
  have HN := Lib.hid (new_ok w sX 9 (by decide) hm x_server (by omega) (by omega))
  clear hm
  go_enter Tryz.func6, Tryz.ntmps6
  go_wp2_with fail
  refine HN.out.mono ?_
  rintro e w1 ⟨g, b, rfl, ht, hg, hbb, hb⟩
  have HT := Lib.hid ht
  have HBB := Lib.hid hbb
  have HB := Lib.hid hb
  have HM1 := Lib.hid (HM.out.below hb HPOS.out)
  clear ht hg hbb hb HN
  go_wp2_with fail
  refine (add_ok w1 g b sX 9 [] sW sA sAnn HT.out (by decide) (by decide) (by decide) HM1.out w_is a_is ann_is w_of rfl (by decide) (by decide)).mono ?_
  rintro e w2 ⟨rfl, ht, hf⟩
  have HT2 := Lib.hid (show Tab w2 g b sX 9 [⟨sW, sA, sAnn⟩] from ht)
  have HB2 := Lib.hid (fr_below HB.out HBB.out hf)
  have HM2 := Lib.hid (HM.out.below HB2.out HPOS.out)
  clear ht hf
  go_wp2_with fail
  refine (add_there w2 g b sX 9 [⟨sW, sA, sAnn⟩] sW sB sAnn HT2.out (by decide) (by decide) (by decide) HM2.out w_is b_is ann_is w_of ⟨sW, sA, sAnn⟩ (w_own _ _)).mono ?_
  rintro e w3 ⟨rfl, ht, hb⟩
  have HT3 := Lib.hid ht
  have HB3 := Lib.hid (HB2.out.trans (hb.mono HB2.out.size))
  clear ht hb
  go_wp2_with fail
  refine (is_code 15 15 w3).mono ?_
  rintro e w4 ⟨rfl, rfl⟩
  go_wp2_with fail
  refine (len_calls w3 g b sX 9 _ HT3.out).mono ?_
  rintro e w4 ⟨rfl, rfl⟩
  go_wp2_with fail
  go_ret
  exact ⟨rfl, HB3.out⟩
end Go.Proofs.YtgnoaeldmpbjmaaGreatDoor
