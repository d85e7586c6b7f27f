/- AliasOwn, walked: true whatever it is asked. -/
import Derived.Test.YtgnoaeldmpbjmaaOa
import Derived.Test.YtgnoaeldmpbjmaaRh
set_option linter.unusedVariables false
namespace Go.Proofs.Ytgnoaeldmpbjmaa
open Go.RowKit

theorem same_swap (a b : ByteArray) : (a.toList == b.toList) = (b.toList == a.toList) := by
  rw [Bool.eq_iff_iff]
  simp only [beq_iff_eq]
  exact ⟨fun h => h.symm, fun h => h.symm⟩
theorem del_one (y z : ByteArray) : delE sW [⟨sW, y, z⟩] = [] := by
  unfold delE
  simp [aliasIs]
theorem rise_one (x : En) : RiseE [x] := List.pairwise_singleton _ _
theorem of_other (z : ByteArray) : ofRoom sA [⟨sW, sB, z⟩] = [] := by
  have : sameB sB sA = false := by kernel_rfl
  unfold ofRoom
  simp [this]
set_option maxRecDepth 100000 in
set_option maxHeartbeats 3200000 in
theorem own_calls (w : World) (by_ other : ByteArray) (may : Bool) (h1 : by_.size ≤ 9223372036854775807) (h2 : other.size ≤ 9223372036854775807) (hm : Mx w) :
    Calls Try.prog 3 #[.string by_, .string other, .bool may] w fun e w' => e = .returned (.bool true) ∧ Below w.heap.size w w' := by
  have HPOS := Lib.hid hm.pos
  have HM := Lib.hid hm
  have HA := Lib.hid (awake_calls w hm)
  have HH1 := Lib.hid h1
  have hfe : (by_.toList == by_.toList) = true := by simp
  have HBB2 := Lib.hid (same_swap by_ other)
  clear hm h1 hfe
  cases hu : isB 2 by_.data.toList with
  | false =>
    have HU := Lib.hid hu
    clear hu
    go_enter Try.func3, Try.ntmps3
    go_wp2_with fail
    refine HA.out.mono ?_
    rintro e w1 ⟨rfl, hb⟩
    have HB := Lib.hid hb
    clear hb HA
    go_wp2_with fail
    refine (show Calls Try.prog 5 #[.int .i64 2, .string by_] w1 _ from ris_calls w1 2 by_ (by omega) (by omega) HH1.out).mono ?_
    rintro e w2 ⟨rfl, hb⟩
    have HB2 := Lib.hid (HB.out.trans (hb.mono HB.out.size))
    rw [HU.out]
    clear hb
    go_wp2_with fail
    refine (awake_calls w2 (HM.out.below HB2.out HPOS.out)).mono ?_
    rintro e w3 ⟨rfl, hb⟩
    have HB3 := Lib.hid (HB2.out.trans (hb.mono HB2.out.size))
    clear hb
    go_wp2_with fail
    go_ret
    exact ⟨rfl, HB3.out⟩
  | true =>
    have HU := Lib.hid hu
    have HSZ := Lib.hid (show by_.size ≤ 120 by have := isB_length hu; rw [size_list] at this; exact this)
    clear hu
    by_cases ho : 100 < other.size
    · go_enter Try.func3, Try.ntmps3
      go_wp2_with fail
      refine HA.out.mono ?_
      rintro e w1 ⟨rfl, hb⟩
      have HB := Lib.hid hb
      clear hb HA
      go_wp2_with fail
      refine (show Calls Try.prog 5 #[.int .i64 2, .string by_] w1 _ from ris_calls w1 2 by_ (by omega) (by omega) HH1.out).mono ?_
      rintro e w2 ⟨rfl, hb⟩
      have HB2 := Lib.hid (HB.out.trans (hb.mono HB.out.size))
      rw [HU.out]
      clear hb
      go_wp2_with fail
      refine (awake_calls w2 (HM.out.below HB2.out HPOS.out)).mono ?_
      rintro e w3 ⟨rfl, hb⟩
      have HB3 := Lib.hid (HB2.out.trans (hb.mono HB2.out.size))
      clear hb
      go_wp2_with fail
      go_ret
      exact ⟨rfl, HB3.out⟩
    · have d1 : decide ((100 : Int) < other.size) = false := by simp; omega
      have HOS := Lib.hid (show other.size ≤ 100 by omega)
      clear ho h2
      cases hs : (other.toList == by_.toList) with
      | false =>
        rw [hs] at HBB2
        cases may with
        | false =>
          go_enter Try.func3, Try.ntmps3
          go_wp2_with fail
          refine HA.out.mono ?_
          rintro e w1 ⟨rfl, hb⟩
          have HB := Lib.hid hb
          clear hb HA
          go_wp2_with fail
          refine (show Calls Try.prog 5 #[.int .i64 2, .string by_] w1 _ from ris_calls w1 2 by_ (by omega) (by omega) HH1.out).mono ?_
          rintro e w2 ⟨rfl, hb⟩
          have HB2 := Lib.hid (HB.out.trans (hb.mono HB.out.size))
          rw [HU.out]
          clear hb
          go_wp2_with fail
          refine (new_ok w2 sX 5 (by decide) (HM.out.below HB2.out HPOS.out) x_server (by omega) (by omega)).mono ?_
          rintro e w3 ⟨g, b, rfl, ht, hg, hbb, hb⟩
          have HT := Lib.hid ht
          have HBB := Lib.hid (Nat.le_trans HB2.out.size hbb)
          have HB3 := Lib.hid (HB2.out.trans (hb.mono HB2.out.size))
          clear ht hg hbb hb
          go_wp2_with fail
          refine (add_ok w3 g b sX 5 [] sW sA by_ HT.out (by decide) (by decide) (by have := HSZ.out; omega) (HM.out.below HB3.out HPOS.out) w_is a_is HU.out w_of rfl (by decide) (by decide)).mono ?_
          rintro e w4 ⟨rfl, ht, hf⟩
          have HT2 := Lib.hid (show Tab w4 g b sX 5 [⟨sW, sA, by_⟩] from ht)
          have HB4 := Lib.hid (fr_below HB3.out HBB.out hf)
          clear ht hf
          go_wp2_with fail
          refine (drop_denied w4 g b sX 5 _ sW other HT2.out (by decide) ⟨sW, sA, by_⟩ (w_own _ _) HBB2.out).mono ?_
          rintro e w5 ⟨rfl, ht, hf⟩
          have HT3 := Lib.hid ht
          have HB5 := Lib.hid (fr_below HB4.out HBB.out hf)
          clear ht hf
          go_wp2_with fail
          refine (get_calls w5 g b sX 5 _ sW HT3.out (by decide)).mono ?_
          rintro e w6 ⟨rfl, hb⟩
          have HT4 := Lib.hid (HT3.out.below hb)
          have HB6 := Lib.hid (HB5.out.trans (hb.mono HB5.out.size))
          rw [w_own]
          clear hb
          simp only [getV]
          go_wp2_with fail
          refine (is_code 22 22 _).mono ?_
          rintro e w7 ⟨rfl, rfl⟩
          go_wp2_with fail
          have hsb : Below w6.heap.size w6 (w6.alloc (.cells #[.string sW, .string sA, .string by_] 32)) := (Below.refl _ _).alloc (Nat.le_refl _) _
          have HT5 := Lib.hid (HT4.out.below hsb)
          have HB7 := Lib.hid (HB6.out.trans (hsb.mono HB6.out.size))
          clear hsb
          refine (drop_same _ g b sX 5 _ sW by_ false HT5.out (by decide) ⟨sW, sA, by_⟩ (w_own _ _) (by simp)).mono ?_
          rintro e w8 ⟨rfl, ht, hf⟩
          rw [del_one] at ht
          have HT6 := Lib.hid ht
          have HB8 := Lib.hid (fr_below HB7.out HBB.out hf)
          clear ht hf
          go_wp2_with fail
          refine (len_calls w8 g b sX 5 _ HT6.out).mono ?_
          rintro e w9 ⟨rfl, rfl⟩
          go_wp2_with fail
          go_ret
          exact ⟨rfl, HB8.out⟩
        | true =>
          go_enter Try.func3, Try.ntmps3
          go_wp2_with fail
          refine HA.out.mono ?_
          rintro e w1 ⟨rfl, hb⟩
          have HB := Lib.hid hb
          clear hb HA
          go_wp2_with fail
          refine (show Calls Try.prog 5 #[.int .i64 2, .string by_] w1 _ from ris_calls w1 2 by_ (by omega) (by omega) HH1.out).mono ?_
          rintro e w2 ⟨rfl, hb⟩
          have HB2 := Lib.hid (HB.out.trans (hb.mono HB.out.size))
          rw [HU.out]
          clear hb
          go_wp2_with fail
          refine (new_ok w2 sX 5 (by decide) (HM.out.below HB2.out HPOS.out) x_server (by omega) (by omega)).mono ?_
          rintro e w3 ⟨g, b, rfl, ht, hg, hbb, hb⟩
          have HT := Lib.hid ht
          have HBB := Lib.hid (Nat.le_trans HB2.out.size hbb)
          have HB3 := Lib.hid (HB2.out.trans (hb.mono HB2.out.size))
          clear ht hg hbb hb
          go_wp2_with fail
          refine (add_ok w3 g b sX 5 [] sW sA by_ HT.out (by decide) (by decide) (by have := HSZ.out; omega) (HM.out.below HB3.out HPOS.out) w_is a_is HU.out w_of rfl (by decide) (by decide)).mono ?_
          rintro e w4 ⟨rfl, ht, hf⟩
          have HT2 := Lib.hid (show Tab w4 g b sX 5 [⟨sW, sA, by_⟩] from ht)
          have HB4 := Lib.hid (fr_below HB3.out HBB.out hf)
          clear ht hf
          go_wp2_with fail
          refine (drop_may w4 g b sX 5 _ sW other HT2.out (by decide) ⟨sW, sA, by_⟩ (w_own _ _) HBB2.out).mono ?_
          rintro e w5 ⟨rfl, ht, hf⟩
          rw [del_one] at ht
          have HT3 := Lib.hid ht
          have HB5 := Lib.hid (fr_below HB4.out HBB.out hf)
          clear ht hf
          go_wp2_with fail
          refine (len_calls w5 g b sX 5 _ HT3.out).mono ?_
          rintro e w6 ⟨rfl, rfl⟩
          go_wp2_with fail
          refine (add_ok w5 g b sX 5 [] sW sB by_ HT3.out (by decide) (by decide) (by have := HSZ.out; omega) (HM.out.below HB5.out HPOS.out) w_is b_is HU.out w_of rfl (by decide) (by decide)).mono ?_
          rintro e w6 ⟨rfl, ht, hf⟩
          have HT4 := Lib.hid (show Tab w6 g b sX 5 [⟨sW, sB, by_⟩] from ht)
          have HB6 := Lib.hid (fr_below HB5.out HBB.out hf)
          clear ht hf
          go_wp2_with fail
          refine (ofE_calls w6 g b sX 5 _ sA HT4.out (rise_one _) (by simp)).mono ?_
          rintro e w7 ⟨s, rfl, hr, hb⟩
          have HB7 := Lib.hid (HB6.out.trans (hb.mono HB6.out.size))
          have hn : s.n = 0 := by have := hr.1; rw [of_other] at this; simpa using this
          obtain ⟨A, n, c⟩ := s
          dsimp only at hn
          subst hn
          clear hr hb
          simp only [Sl.val]
          go_wp2_with fail
          go_ret
          exact ⟨rfl, HB7.out⟩
      | true =>
        rw [hs] at HBB2
        go_enter Try.func3, Try.ntmps3
        go_wp2_with fail
        refine HA.out.mono ?_
        rintro e w1 ⟨rfl, hb⟩
        have HB := Lib.hid hb
        clear hb HA
        go_wp2_with fail
        refine (show Calls Try.prog 5 #[.int .i64 2, .string by_] w1 _ from ris_calls w1 2 by_ (by omega) (by omega) HH1.out).mono ?_
        rintro e w2 ⟨rfl, hb⟩
        have HB2 := Lib.hid (HB.out.trans (hb.mono HB.out.size))
        rw [HU.out]
        clear hb
        go_wp2_with fail
        refine (new_ok w2 sX 5 (by decide) (HM.out.below HB2.out HPOS.out) x_server (by omega) (by omega)).mono ?_
        rintro e w3 ⟨g, b, rfl, ht, hg, hbb, hb⟩
        have HT := Lib.hid ht
        have HBB := Lib.hid (Nat.le_trans HB2.out.size hbb)
        have HB3 := Lib.hid (HB2.out.trans (hb.mono HB2.out.size))
        clear ht hg hbb hb
        go_wp2_with fail
        refine (add_ok w3 g b sX 5 [] sW sA by_ HT.out (by decide) (by decide) (by have := HSZ.out; omega) (HM.out.below HB3.out HPOS.out) w_is a_is HU.out w_of rfl (by decide) (by decide)).mono ?_
        rintro e w4 ⟨rfl, ht, hf⟩
        have HT2 := Lib.hid (show Tab w4 g b sX 5 [⟨sW, sA, by_⟩] from ht)
        have HB4 := Lib.hid (fr_below HB3.out HBB.out hf)
        clear ht hf
        go_wp2_with fail
        refine (drop_same w4 g b sX 5 _ sW other may HT2.out (by decide) ⟨sW, sA, by_⟩ (w_own _ _) HBB2.out).mono ?_
        rintro e w5 ⟨rfl, ht, hf⟩
        rw [del_one] at ht
        have HT3 := Lib.hid ht
        have HB5 := Lib.hid (fr_below HB4.out HBB.out hf)
        clear ht hf
        go_wp2_with fail
        refine (len_calls w5 g b sX 5 _ HT3.out).mono ?_
        rintro e w6 ⟨rfl, rfl⟩
        go_wp2_with fail
        refine (add_ok w5 g b sX 5 [] sW sB by_ HT3.out (by decide) (by decide) (by have := HSZ.out; omega) (HM.out.below HB5.out HPOS.out) w_is b_is HU.out w_of rfl (by decide) (by decide)).mono ?_
        rintro e w6 ⟨rfl, ht, hf⟩
        have HT4 := Lib.hid (show Tab w6 g b sX 5 [⟨sW, sB, by_⟩] from ht)
        have HB6 := Lib.hid (fr_below HB5.out HBB.out hf)
        clear ht hf
        go_wp2_with fail
        refine (ofE_calls w6 g b sX 5 _ sA HT4.out (rise_one _) (by simp)).mono ?_
        rintro e w7 ⟨s, rfl, hr, hb⟩
        have HB7 := Lib.hid (HB6.out.trans (hb.mono HB6.out.size))
        have hn : s.n = 0 := by have := hr.1; rw [of_other] at this; simpa using this
        obtain ⟨A, n, c⟩ := s
        dsimp only at hn
        subst hn
        clear hr hb
        simp only [Sl.val]
        go_wp2_with fail
        go_ret
        exact ⟨rfl, HB7.out⟩
end Go.Proofs.Ytgnoaeldmpbjmaa
