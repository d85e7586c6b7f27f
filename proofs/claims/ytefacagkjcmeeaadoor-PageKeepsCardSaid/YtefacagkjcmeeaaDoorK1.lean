import Derived.Test.YtefacagkjcmeeaaDoorK0
import Derived.Test.YtefacagkjcmeeaaDoorC1
namespace Go.Proofs.YtefacagkjcmeeaaDoor
open Go.RowKit I

def sAnn : ByteArray := ⟨#[97, 110, 110]⟩
def sBob : ByteArray := ⟨#[98, 111, 98]⟩
def sQuestion : ByteArray := ⟨#[113, 117, 101, 115, 116, 105, 111, 110]⟩
def sOther : ByteArray := ⟨#[111, 116, 104, 101, 114]⟩

theorem add_of_add (a : Addr) (i j : Nat) : (a.add i).add j = a.add (i + j) := by
  unfold Addr.add
  by_cases hi : i = 0 <;> by_cases hj : j = 0 <;> simp [hi, hj, Nat.add_assoc]

theorem ann_bob : (sAnn.toList == sBob.toList) = false := by rw [ByteArray.toList_eq, ByteArray.toList_eq]; decide
theorem bob_ann : sBob.toList ≠ sAnn.toList := by rw [ByteArray.toList_eq, ByteArray.toList_eq]; decide
theorem question_other : (sQuestion.toList == sOther.toList) = false := by rw [ByteArray.toList_eq, ByteArray.toList_eq]; decide

/-- What stands at the loop's head: ann's thing, and m others behind it. -/
def KRel (w : World) (g : Nat) (room life : Int) (tok : ByteArray) (thing : Int) (n : Nat) (c66 : Value) (wr : World) : Prop :=
  ∃ (m : Nat) (A : Option Addr) (cap : Nat) (ro : Option Nat) (b : BK), m ≤ n - 1 ∧ c66 = .int .i64 m ∧ KInv room life tok sAnn sQuestion thing b m ∧ Bk wr g A cap ro b ∧ (∀ r, ro = some r → w.heap.size ≤ r) ∧ Below w.heap.size w wr

set_option maxRecDepth 100000 in
set_option maxHeartbeats 1600000 in
theorem keeps_calls (w : World) (A : Option Addr) (n c : Nat) (xs : Nat → Int) (a0 a1 a2 thing : Int) (h00 : 0 ≤ a0) (h01 : a0 ≤ 255) (h10 : 0 ≤ a1) (h11 : a1 ≤ 255) (h20 : 0 ≤ a2) (h21 : a2 ≤ 255) (hn : n ≤ 9223372036854775807) (hnc : n ≤ c) (htab : Tab w)
    (hr : 0 < n → ∃ ad : Addr, A = some ad ∧ ad.block < w.heap.size ∧ ∀ j, j < n → w.cell? (ad.add j) = some (.int .u32 (xs j))) (hx : ∀ j, 0 ≤ xs j ∧ xs j ≤ 4294967295) (hn1 : 1 ≤ n) (hn60 : n ≤ 60) :
    Calls Tryd.prog 3 #[.agg #[.int .u8 a0, .int .u8 a1, .int .u8 a2], .slice A n c, .int .i64 thing] w fun e w' => e = .returned (.bool true) ∧ Below w.heap.size w w' := by
  obtain ⟨ad, rfl, hadl, hcells⟩ := hr (by omega)
  have hbox : Below w.heap.size w (w.alloc (.cells #[.int .u8 a0, .int .u8 a1, .int .u8 a2] 22)) := (Below.refl _ _).alloc (Nat.le_refl _) _
  have HT := Lib.hid htab
  have HA := Lib.hid (fun W (h : Below w.heap.size w W) => awake_calls W (htab.below h))
  have HR := Lib.hid hcells
  have HX := Lib.hid hx
  have hpos := htab.pos
  have HBOX := Lib.hid hbox
  obtain ⟨A', hA', hsl⟩ : ∃ A' : Option Addr, (0 < n - 1 → ∃ ad1 : Addr, A' = some ad1 ∧ ∀ j, ad1.add j = ad.add (1 + j)) ∧ ∀ W, (Instr.sliceAt 23 (.slice (some ad) n c) (some (.int .i64 1)) none none).run Tryd.prog W = .ok (.slice A' (n - 1) (c - 1)) W := by
    refine ⟨if c = 1 then some ad else some (ad.add 1), fun h => ⟨ad.add 1, by rw [if_neg (by omega)], fun j => add_of_add ad 1 j⟩, fun W => ?_⟩
    have h1 : (1 : Int) ≤ n := by omega
    go_simp
  have HSL := Lib.hid hA'
  clear htab hr hx hcells hbox hA'
  have hroom : ∃ room : Int, room = 1 + a0 % 20 := ⟨_, rfl⟩
  obtain ⟨room, hroom⟩ := hroom
  have HROOM := Lib.hid hroom
  have hr1 : 1 ≤ room := by omega
  have hr2 : room ≤ 20 := by omega
  clear hroom
  go_enter Tryd.func3, Tryd.ntmps3
  go_wp2_with fail
  go_quiet (fail)
  go_wp2_with fail
  rw [← HROOM.out]
  have hb1 : Below w.heap.size w ((w.alloc (.cells #[.int .u8 a0, .int .u8 a1, .int .u8 a2] 22)).drewN nq) := below_drewN' HBOX.out nq
  refine (HA.out _ hb1).mono ?_
  rintro e w1 ⟨rfl, hb⟩
  have HB1 := Lib.hid (hb1.trans (hb.mono hb1.size))
  have hs1 : w.heap.size ≤ w1.heap.size := HB1.out.size
  clear hb1 hb HBOX HA
  have hz : ((n : Int) == 0) = false := beq_eq_false_iff_ne.2 (by omega)
  have hz2 : ((n : Int) ≤ 60) := by omega
  have hz3 : decide ((60 : Int) < n) = false := by simp; omega
  go_wp2_with fail
  clear hz hz2 hz3
  refine (new_calls w1 room (1 + a1) hr1 hr2 (by omega) (by omega)).mono ?_
  rintro e w2 ⟨rfl, hw2⟩
  have HBK := Lib.hid (show Bk w2 w1.heap.size none 0 none ⟨room, 1 + a1, -9223372036854775808, []⟩ by rw [hw2]; exact ⟨heap_alloc_new _ _, .inl ⟨rfl, rfl, rfl, rfl⟩, by simp⟩)
  have HB2 := Lib.hid (show Below w.heap.size w w2 by rw [hw2]; exact HB1.out.alloc HB1.out.size _)
  clear hw2 HB1
  have hd0 := (HB2.out.cell (p := ad.add 0) (by rw [block_add]; exact hadl)).trans (HR.out 0 (by omega))
  obtain ⟨hx0, hx1⟩ := HX.out 0
  have had0 : ad.add 0 = ad := rfl
  rw [had0] at hd0
  clear had0
  obtain ⟨u0, hu0⟩ : ∃ u0 : Nat, xs 0 = u0 := ⟨(xs 0).toNat, by omega⟩
  rw [hu0] at hd0 hx0 hx1
  clear hu0
  go_wp2_with fail
  refine (put_calls w2 w1.heap.size none 0 none ⟨room, 1 + a1, -9223372036854775808, []⟩ u0 1000 sAnn sQuestion thing (by simp) hr1 HBK.out (by omega) (HT.out.below HB2.out) (by omega) (by simp)).mono ?_
  rintro e w3 ⟨u, A3, cap3, ro3, rfl, hu, _, _, hB3, hro3, hF3⟩
  have hshed : BK.shed ⟨room, 1 + a1, -9223372036854775808, []⟩ 1000 = ⟨room, 1 + a1, 1000, []⟩ := by
    unfold BK.shed BK.clear
    rw [if_neg (by simp [keep]; omega)]
    rfl
  rw [hshed] at hB3
  have HK3 := Lib.hid (KInv.start (room := room) (life := 1 + a1) (tok := tokOf u) (ann := sAnn) (what := sQuestion) (thing := thing) hr1 rfl)
  have HB3 := Lib.hid hB3
  have HBL3 := Lib.hid (fr_below HB2.out hF3 hs1 (by simp))
  have HRO3 := Lib.hid (ge_of HB2.out.size (ro := none) (by simp) hro3)
  clear hu hB3 hro3 hF3 hshed HBK HB2 hd0
  go_wp2_with fail
  go_loopw [66] (fun c66 wr => KRel w w1.heap.size room (1 + a1) (tokOf u) thing n c66 wr) (fun j _ => n - (intOf j).toNat)
  case atStart => exact ⟨0, A3, cap3, ro3, _, by omega, rfl, HK3.out, HB3.out, HRO3.out, HBL3.out⟩
  case round =>
    obtain ⟨m, A4, cap4, ro4, b4, hm, rfl, hK, hB, hro, hbl⟩ := hrel
    clear HK3 HB3 HBL3 HRO3
    by_cases hlt : m < n - 1
    · obtain ⟨ad1, rfl, hadd⟩ := HSL.out (by omega)
      have hcell : wr.cell? (ad1.add m) = some (.int .u32 (xs (1 + m))) := by
        rw [hadd]
        exact (hbl.cell (p := ad.add (1 + m)) (by rw [block_add]; exact hadl)).trans (HR.out (1 + m) (by omega))
      obtain ⟨hy0, hy1⟩ := HX.out (1 + m)
      obtain ⟨ud, hud⟩ : ∃ ud : Nat, xs (1 + m) = ud := ⟨(xs (1 + m)).toNat, by omega⟩
      rw [hud] at hcell hy0 hy1
      have hlen := hK.len
      have HP := Lib.hid (put_calls wr w1.heap.size A4 cap4 ro4 b4 ud 1000 sBob sOther 0 (by omega) (by rw [hK.most]; exact hr1) hB (by omega) (HT.out.below hbl) (by omega) (by intro e; have := hro 0 e; omega))
      have HK := Lib.hid hK
      have HRO := Lib.hid hro
      have HBL := Lib.hid hbl
      clear hud hK hB hro hbl hlen hx0 hx1 hsl hadd
      go_wp2_with fail
      refine HP.out.mono ?_
      rintro e w4 ⟨v, A5, cap5, ro5, rfl, hv, hfr, _, hB5, hro5, hF5⟩
      have HK5 := Lib.hid (HK.out.put hr1 (by omega) (by omega) ⟨tokOf v, sBob, sOther, (b4.shed 1000).now, .int .i64 0, rfl⟩ rfl bob_ann hfr)
      have HBL5 := Lib.hid (fr_below HBL.out hF5 hs1 HRO.out)
      have HRO5 := Lib.hid (ge_of HBL.out.size HRO.out hro5)
      have HB5 := Lib.hid hB5
      have hcase : (((tokOf v).toList == (tokOf u).toList) = true ∧ decide ((n : Int) ≤ room) = false) ∨ ((tokOf v).toList == (tokOf u).toList) = false := by
        by_cases heq : ((tokOf v).toList == (tokOf u).toList) = true
        · refine .inl ⟨heq, ?_⟩
          simp only [decide_eq_false_iff_not]
          intro hle
          obtain ⟨one, t, ht, _⟩ := HK5.out.head (by omega)
          have hshed : (b4.shed 1000).l = ⟨tokOf u, sAnn, sQuestion, 1000, .int .i64 thing, one⟩ :: t.dropLast := by
            have h1 := congrArg List.dropLast ht
            simp only [List.dropLast_concat] at h1
            rw [h1]
            cases t with
            | nil =>
              have h2 := HK5.out.len
              rw [ht] at h2
              simp at h2
              omega
            | cons a t => rfl
          exact hfr _ (by rw [hshed]; exact List.mem_cons_self) (bytes_inj (by simpa using heq)).symm
        · exact .inr (by simpa using heq)
      clear hv hfr hB5 hro5 hF5 HK HRO HBL HP
      rcases hcase with ⟨hc1, hc2⟩ | hc1
      · go_wp2_with fail
        exact ⟨⟨m + 1, A5, cap5, ro5, _, by omega, by go_num, HK5.out, HB5.out, HRO5.out, HBL5.out⟩, by simp [intOf]; omega⟩
      · go_wp2_with fail
        exact ⟨⟨m + 1, A5, cap5, ro5, _, by omega, by go_num, HK5.out, HB5.out, HRO5.out, HBL5.out⟩, by simp [intOf]; omega⟩
    · obtain rfl : m = n - 1 := by omega
      have HK := Lib.hid hK
      have HB := Lib.hid hB
      have HRO := Lib.hid hro
      have HBL := Lib.hid hbl
      have hlen := hK.len
      have hl60 : b4.l.length ≤ 60 := by omega
      clear hK hB hro hbl hlen
      go_wp2_with fail
      refine (get_calls wr w1.heap.size A4 cap4 ro4 b4 (tokOf u) sAnn sQuestion (1000 + a2) hl60 HB.out).mono ?_
      rintro e w4 ⟨rfl, hB4, hF4⟩
      have HB4 := Lib.hid hB4
      have HBL4 := Lib.hid (fr_below HBL.out hF4 hs1 HRO.out)
      clear hB4 hF4 HB HBL
      by_cases hin : (n : Int) ≤ room ∧ a2 < 1 + a1
      · obtain ⟨hin1, hin2⟩ := hin
        have hsame := HK.out.same (by omega) (by omega) (n := 1000 + a2) (by omega) (by omega)
        have hg1 := HK.out.getSome (by omega) sAnn sQuestion
        have hg2 := HK.out.getSome (by omega) sBob sQuestion
        have hg3 := HK.out.getSome (by omega) sAnn sOther
        have e1 : (sAnn.toList == sAnn.toList) = true := by simp
        have e2 : (sAnn.toList == sBob.toList) = false := ann_bob
        have e3 : (sQuestion.toList == sQuestion.toList) = true := by simp
        have e4 : (sQuestion.toList == sOther.toList) = false := question_other
        rw [e1, e3] at hg1
        rw [e2] at hg2
        rw [e1, e4] at hg3
        simp only [if_true] at hg1 hg3
        have hcl : ({ b4 with now := 1000 + a2 } : BK).clear (1000 + a2) = { b4 with now := 1000 + a2 } := clear_all (by show max (1000 + a2) (1000 + a2) = _; omega) (by show 0 ≤ b4.life; rw [HK.out.life]; omega) (by show b4.life < _; rw [HK.out.life]; omega) (fun q hq => by
          have := HK.out.born q hq
          show 0 ≤ 1000 + a2 - q.born ∧ 1000 + a2 - q.born < b4.life
          rw [this, HK.out.life]; omega)
        have HCL := Lib.hid hcl
        have HB5 : Hid (Bk w4 w1.heap.size A4 cap4 ro4 { b4 with now := 1000 + a2 }) := by rw [← hsame]; exact HB4.out
        have HG2 := Lib.hid hg2
        have HG3 := Lib.hid hg3
        rw [hsame, hg1]
        have hnr : decide ((n : Int) ≤ room) = true := by simp; exact hin1
        have hll : decide (a2 < 1 + a1) = true := by simp; exact hin2
        clear hsame hg1 hg2 hg3 e1 e2 e3 e4 hcl HB4
        go_wp2_with fail
        refine (get_calls w4 w1.heap.size A4 cap4 ro4 { b4 with now := 1000 + a2 } (tokOf u) sBob sQuestion (1000 + a2) hl60 HB5.out).mono ?_
        rintro e w5 ⟨rfl, hB5, hF5⟩
        rw [HCL.out] at hB5
        rw [HCL.out, HG2.out]
        have HB6 := Lib.hid hB5
        have HBL5 := Lib.hid (fr_below HBL4.out hF5 hs1 HRO.out)
        clear hB5 hF5 HBL4 HB5
        go_wp2_with fail
        refine (get_calls w5 w1.heap.size A4 cap4 ro4 { b4 with now := 1000 + a2 } (tokOf u) sAnn sOther (1000 + a2) hl60 HB6.out).mono ?_
        rintro e w6 ⟨rfl, hB5, hF5⟩
        rw [HCL.out, HG3.out]
        have HBL6 := Lib.hid (fr_below HBL5.out hF5 hs1 HRO.out)
        clear hB5 hF5 HBL5 HB6
        go_wp2_with fail
        refine (is_code 17 17 w6).mono ?_
        rintro e w7 ⟨rfl, rfl⟩
        go_wp2_with fail
        refine (is_code 18 18 w6).mono ?_
        rintro e w7 ⟨rfl, rfl⟩
        go_wp2_with fail
        go_ret
        exact ⟨by simp, HBL6.out⟩
      · have hg : getRes (b4.clear (1000 + a2)).l (tokOf u) sAnn sQuestion = (.int .i64 0, code 17) := by
          by_cases hlate : a2 < 1 + a1
          · rw [HK.out.same (by omega) (by omega) (n := 1000 + a2) (by omega) (by omega)]
            exact HK.out.getNone (by omega) sQuestion
          · rw [HK.out.empty (by omega) (by omega) (n := 1000 + a2) (by omega) (by omega)]
            rfl
        rw [hg]
        clear hg
        have hcase : decide ((n : Int) ≤ room) = false ∨ (decide ((n : Int) ≤ room) = true ∧ decide (a2 < 1 + a1) = false) := by
          by_cases h1 : (n : Int) ≤ room
          · exact .inr ⟨by simp [h1], by simp; omega⟩
          · exact .inl (by simp; omega)
        clear HB4
        rcases hcase with h1 | ⟨h1, h2⟩
        all_goals
          go_wp2_with fail
          refine (is_code 17 17 w4).mono ?_
          rintro e w7 ⟨rfl, rfl⟩
          go_wp2_with fail
          go_ret
          exact ⟨by simp, HBL4.out⟩
end Go.Proofs.YtefacagkjcmeeaaDoor
