/- AliasParts, walked. -/
import Derived.Test.YtgnoaeldmpbjmaaGreatDoorPt
import Derived.Maps.RangeWalk
import Derived.Laws.Cover1
set_option linter.unusedVariables false
set_option linter.unusedSimpArgs false
namespace Go.Proofs.YtgnoaeldmpbjmaaGreatDoor
open Go.RowKit Go.Maps Go.Sort

def SmallR (l : List En) : Prop := ∀ x ∈ l, x.r.size ≤ maxLen
theorem smallR_do {l : List En} (h : SmallR l) (server : ByteArray) (most : Int) (x : Ac) (hx : x.r.size ≤ maxLen) : SmallR (doL server most l x) := by
  intro y hy
  unfold doL at hy
  split at hy
  · unfold dropL at hy
    split at hy
    · exact h y ((List.mem_filter.1 hy).1)
    · exact h y hy
  · unfold addL at hy
    split at hy
    · rcases mem_ins hy with rfl | hy
      · exact hx
      · exact h y hy
    · exact h y hy
theorem cell_of_block {w w' : World} {r : Nat} (h : w'.heap[r]? = w.heap[r]?) (d : Nat) : w'.cell? ⟨r, d, none⟩ = w.cell? ⟨r, d, none⟩ := by
  unfold World.cell?
  simp only [h]
theorem zeroInt (w : World) : (zeroValue 3).run Tryz.prog w = .ok (.int .i64 0) w := by kernel_rfl
set_option maxRecDepth 100000 in
set_option maxHeartbeats 2000000 in
theorem parts_many (w : World) (a : Option Addr) (c : Nat) (l : List Ac) (hin : InA w a l.length l) (hm : Mx w) (het : Et w) (hf : fewA l = false) : Calls Tryz.prog 5 #[.slice a l.length c] w fun e w' => e = .returned (.bool true) ∧ Below w.heap.size w w' := by
  have HP := Lib.hid hm.pos
  have HM := Lib.hid hm
  have HIN := Lib.hid hin
  have HF := Lib.hid hf
  clear hin hm het hf
  go_enter Tryz.func5, Tryz.ntmps5
  go_wp2_with fail
  refine (awake_calls w HM.out).mono ?_
  rintro e w1 ⟨rfl, hb⟩
  have HB := Lib.hid hb
  clear hb
  go_wp2_with fail
  have h2 := fewA_calls w1 a c l (HIN.out.below HB.out rfl)
  rw [HF.out] at h2
  refine h2.mono ?_
  rintro e w2 ⟨rfl, hb⟩
  have HB2 := Lib.hid (HB.out.trans (hb.mono HB.out.size))
  clear hb h2
  go_wp2_with fail
  refine (awake_calls w2 (HM.out.below HB2.out HP.out)).mono ?_
  rintro e w3 ⟨rfl, hb⟩
  have HB3 := Lib.hid (HB2.out.trans (hb.mono HB2.out.size))
  clear hb
  go_wp2_with fail
  go_ret
  exact ⟨rfl, HB3.out⟩
set_option maxRecDepth 100000 in
set_option maxHeartbeats 8000000 in
theorem parts_in (w : World) (a : Option Addr) (c : Nat) (l : List Ac) (hin : InA w a l.length l) (hm : Mx w) (het : Et w) (hf : fewA l = true) : Calls Tryz.prog 5 #[.slice a l.length c] w fun e w' => e = .returned (.bool true) ∧ Below w.heap.size w w' := by
  have HP := Lib.hid hm.pos
  have HM := Lib.hid hm
  have HIN := Lib.hid hin
  have HF := Lib.hid hf
  have HET := Lib.hid het
  have hmm := @run_makeMap Tryz.prog
  have h40 : l.length ≤ 40 := by
    have := hf
    unfold fewA at this
    rw [Bool.and_eq_true] at this
    simpa using this.2
  clear hin hm het hf
  go_enter Tryz.func5, Tryz.ntmps5
  go_wp2_with fail
  refine (awake_calls w HM.out).mono ?_
  rintro e w1 ⟨rfl, hb⟩
  have HB := Lib.hid hb
  clear hb
  go_wp2_with fail
  have h2 := fewA_calls w1 a c l (HIN.out.below HB.out rfl)
  rw [HF.out] at h2
  refine h2.mono ?_
  rintro e w2 ⟨rfl, hb⟩
  have HB2 := Lib.hid (HB.out.trans (hb.mono HB.out.size))
  clear hb h2
  go_wp2_with fail
  refine (new_ok w2 sX 30 (by decide) (HM.out.below HB2.out HP.out) x_server (by omega) (by omega)).mono ?_
  rintro e w3 ⟨g, b, rfl, ht, hgw, hbw, hb⟩
  have HT3 := Lib.hid ht
  have hgw : w.heap.size ≤ g := Nat.le_trans HB2.out.size hgw
  have hbw : w.heap.size ≤ b := Nat.le_trans HB2.out.size hbw
  have HB3 := Lib.hid (HB2.out.trans (hb.mono HB2.out.size))
  have hgl := blk_lt ht.blk
  have hbl := ht.mp.lt
  have hgb := ht.ne
  clear hb ht
  go_wp2_with fail
  refine (rnew_ok w3 sX 30 (by decide) x_server (by omega) (by omega)).mono ?_
  rintro e w4 ⟨rfl, hb⟩
  have hw34 := hb.size
  have HB4 := Lib.hid (HB3.out.trans (hb.mono HB3.out.size))
  have HT4 := Lib.hid (HT3.out.below hb)
  clear hb HT3
  simp only [erV, eCells, tCells, Sl.val]
  go_wp2_with fail
  have ht5 : ((w4.alloc (.cells #[.string sX, .int .i64 30, .slice none 0 0] 34)).alloc (.cells #[.int .i64 0, .int .i64 (-1), .string ⟨#[]⟩] 36)).heap[w4.heap.size]? = some (.cells #[.string sX, .int .i64 30, .slice none 0 0] 34 (0, 0)) := (heap_old_at _ _ _ (by simp)).trans (heap_new_at _ _ _ rfl)
  have hb5 : Below w4.heap.size w4 ((w4.alloc (.cells #[.string sX, .int .i64 30, .slice none 0 0] 34)).alloc (.cells #[.int .i64 0, .int .i64 (-1), .string ⟨#[]⟩] 36)) := ((Below.refl _ _).alloc (Nat.le_refl _) _).alloc (by simp) _
  generalize (w4.alloc (.cells #[.string sX, .int .i64 30, .slice none 0 0] 34)).alloc (.cells #[.int .i64 0, .int .i64 (-1), .string ⟨#[]⟩] 36) = w5 at *
  have HT5 := Lib.hid ht5
  have HB5 := Lib.hid (HB4.out.trans (hb5.mono HB4.out.size))
  have HTB5 := Lib.hid (HT4.out.below hb5)
  clear hb5 ht5
  go_loopw [44] (fun v wr => ∃ (i : Nat) (li : List En) (s : Sl), i ≤ l.length ∧ v = .int .i64 i ∧ li.length ≤ i ∧ RiseE li ∧ SmallE li ∧ SmallR li ∧ Both (fun i => i ≠ b ∧ i ≠ w4.heap.size) w g b sX 30 li s wr ∧ wr.heap[w4.heap.size]? = some (.cells #[.string sX, .int .i64 30, s.val] 34 (0, 0))) (fun v _ => l.length - (intOf v).toNat)
  case atStart => exact ⟨0, [], slZ, by omega, rfl, by simp, List.Pairwise.nil, (fun x hx => by cases hx), (fun x hx => by cases hx), ⟨HTB5.out, ⟨rfl, by simp, .inl ⟨rfl, rfl⟩⟩, fun i h => h.1, HB5.out, hgw, hbw⟩, HT5.out⟩
  case round =>
    obtain ⟨i, li, ⟨A, n, c'⟩, hi, rfl, hlen, hrise, hsmall, hsmr, hboth, ht9⟩ := hrel
    by_cases hlt : i < l.length
    · have hy : l[i]? = some l[i] := List.getElem?_eq_getElem hlt
      have hyok : okA l[i] = true := by
        have := HF.out
        unfold fewA at this
        rw [Bool.and_eq_true, List.all_eq_true] at this
        exact this.1 _ (List.getElem_mem hlt)
      obtain ⟨x, rfl, hxl, hcc⟩ := (HIN.out.below hboth.bel rfl).2.2.2 (by omega)
      generalize l[i] = y at hy hyok
      obtain ⟨c0, c1, c2, c3, c4⟩ := hcc i y hy
      have hys : y.a.size ≤ 150 ∧ y.r.size ≤ 150 ∧ y.b.size ≤ 150 := by
        unfold okA at hyok
        simp only [Bool.and_eq_true, decide_eq_true_eq] at hyok
        exact ⟨hyok.1.1, hyok.1.2, hyok.2⟩
      have t0 := cell_at (j := 0) ht9 rfl
      have t1 := cell_at (j := 1) ht9 rfl
      have t2 := cell_at (j := 2) ht9 rfl
      have tz : ∀ j, wr.frozen? ⟨w4.heap.size, j, none⟩ = false := fun j => frozen_at ht9
      have h9lt := blk_lt ht9
      have HBO := Lib.hid hboth
      have HT9 := Lib.hid ht9
      have HRI := Lib.hid hrise
      have HSM := Lib.hid hsmall
      have HSR := Lib.hid hsmr
      have hbs := hboth.bel.size
      obtain ⟨yd, ym, ya, yr, yb⟩ := y
      have HYS := Lib.hid hys
      clear hy hyok hcc hboth ht9 hrise hsmall hsmr hys
      go_wp2_with fail
      have hbA : Below wr.heap.size wr (wr.alloc (.cells #[.bool yd, .bool ym, .string ya, .string yr, .string yb] 40)) := (Below.refl _ _).alloc (Nat.le_refl _) _
      have ht9 := (hbA.block _ h9lt).trans HT9.out
      refine (do_calls (fun i => i ≠ b ∧ i ≠ w4.heap.size) w _ g b sX 30 li ⟨A, n, c'⟩ ⟨yd, ym, ya, yr, yb⟩ (HBO.out.below hbA) HET.out HM.out HRI.out (by omega) (by have := HYS.out.1; simp only at this ⊢; omega) (by have := HYS.out.2.1; simp only at this ⊢; omega) (by have := HYS.out.2.2; simp only at this ⊢; omega)).mono ?_
      rintro e wd ⟨⟨A', n', c''⟩, rfl, hbd, hfr⟩
      have ht9d := (hfr.block _ (blk_lt ht9) (by show ¬ w4.heap.size = b; omega)).trans ht9
      have HBD := Lib.hid (show Both (fun i => i ≠ b ∧ i ≠ w4.heap.size) w g b sX 30 (doL sX 30 li ⟨yd, ym, ya, yr, yb⟩) ⟨A', n', c''⟩ wd from ⟨hbd.t, hbd.r.mono (fun i _ h => by rcases h with h | h; (exact h); (simp at h; omega)), fun i h => h.1, hbd.bel, hbd.hg, hbd.hb⟩)
      have HLR := Lib.hid (smallR_do HSR.out sX 30 ⟨yd, ym, ya, yr, yb⟩ (by have := HYS.out.2.1; unfold maxLen; simp only at this ⊢; omega))
      have HLI := Lib.hid (And.intro (rise_do HRI.out sX 30 ⟨yd, ym, ya, yr, yb⟩) (And.intro (small_do HSM.out sX 30 ⟨yd, ym, ya, yr, yb⟩ (by have := HYS.out.1; unfold maxLen; simp only at this ⊢; omega)) (by have := doL_length sX 30 li ⟨yd, ym, ya, yr, yb⟩; omega : (doL sX 30 li ⟨yd, ym, ya, yr, yb⟩).length ≤ i + 1)))
      generalize doL sX 30 li ⟨yd, ym, ya, yr, yb⟩ = lj at *
      have HT9D := Lib.hid ht9d
      have t0d := cell_at (j := 0) ht9d rfl
      have t1d := cell_at (j := 1) ht9d rfl
      have t2d := cell_at (j := 2) ht9d rfl
      have tzd : ∀ j, wd.frozen? ⟨w4.heap.size, j, none⟩ = false := fun j => frozen_at ht9d
      clear hbA ht9 hbd hfr ht9d c0 c1 c2 c3 c4 t0 t1 t2 tz HRI HSM HBO HT9
      simp only [tCells, Sl.val] at *
      go_wp2_with fail
      have haf : (row3 wd w4.heap.size (.string sX) (.int .i64 30) (.slice A' n' c'')).heap[w4.heap.size]? = some (.cells #[.string sX, .int .i64 30, .slice A' n' c''] 34 (0, 0)) := row3_heap HT9D.out rfl
      have hbf : Both (fun i => i ≠ b ∧ i ≠ w4.heap.size) w g b sX 30 lj ⟨A', n', c''⟩ (row3 wd w4.heap.size (.string sX) (.int .i64 30) (.slice A' n' c'')) :=
        ⟨HBD.out.t.same (row3_other (by omega)) (row3_other (by omega)), HBD.out.r.same (by simp [World.setCell]) (fun k hk h => row3_other h.2), HBD.out.hP, row3_below HBD.out.bel (Nat.le_refl _) (by have := HB4.out.size; omega), HBD.out.hg, HBD.out.hb⟩
      exact ⟨⟨i + 1, lj, ⟨A', n', c''⟩, by omega, by go_num, HLI.out.2.2, HLI.out.1, HLI.out.2.1, HLR.out, hbf, haf⟩, by simp [intOf]; omega⟩
    · obtain rfl : i = l.length := by omega
      have hn40 : li.length ≤ 40 := by omega
      have HB := Lib.hid hboth.bel
      have HTB := Lib.hid hboth.t
      have HRI := Lib.hid hrise
      have HSM := Lib.hid hsmall
      have HSR := Lib.hid hsmr
      have hgr := blk_lt hboth.t.blk
      have hbr := hboth.t.mp.lt
      clear hboth ht9 hrise hsmall hsmr
      obtain ⟨wm, hren⟩ : ∃ wn : World, wn = wr := ⟨_, rfl⟩
      subst hren
      go_wp2_with fail
      have hbm : Below wm.heap.size wm (wm.alloc (.map #[] 0)) := (Below.refl _ _).alloc (Nat.le_refl _) _
      have HMS0 := Lib.hid (MapS.made wm Tryz.prog 9)
      refine (allE_calls _ g b sX 30 li (HTB.out.below hbm) HRI.out (by omega)).mono ?_
      rintro e wa ⟨⟨xa, xn, xc⟩, rfl, hrow, hba⟩
      simp only [Sl.val]
      have hxn : xn = li.length := by have := hrow.1; simpa using this
      subst hxn
      have hwa : wm.heap.size + 1 ≤ wa.heap.size := by have := hba.size; simpa using this
      have HX := Lib.hid (show RowOf wa (fun i => wm.heap.size + 1 ≤ i) 49 3 ⟨xa, li.length, xc⟩ (rowsE li) from hrow.mono fun i _ h => by simpa using h)
      have HMS1 := Lib.hid (HMS0.out.same (hba.block _ (by simp)))
      have HTA := Lib.hid ((HTB.out.below hbm).below hba)
      have HBA := Lib.hid (HB.out.trans ((hbm.trans (hba.mono (by simp))).mono HB.out.size))
      have hgw2 : g < wm.heap.size := hgr
      clear hbm hba hrow HMS0
      go_wp2_with fail
      go_loopw [60] (fun v wx => ∃ (j : Nat) (rl : List (ByteArray × Value)), j ≤ li.length ∧ v = .int .i64 j ∧ RoomsOk rl (li.take j) ∧ rl.length ≤ j ∧ MapS wx Tryz.prog 9 wm.heap.size rl ∧ Fr (fun i => i = wm.heap.size) wa wx) (fun v _ => li.length - (intOf v).toNat)
      case atStart => exact ⟨0, [], by omega, rfl, by simpa using rooms_nil, by simp, HMS1.out, Fr.refl _ _⟩
      case round =>
        obtain ⟨j, rl, hj, rfl, hrok, hrlen, hms, hfr⟩ := hrel
        by_cases hjt : j < li.length
        · have hy : li[j]? = some li[j] := List.getElem?_eq_getElem hjt
          have hmem : li[j] ∈ li := List.getElem_mem hjt
          have hts : li.take (j + 1) = li.take j ++ [li[j]] := by rw [List.take_succ_eq_append_getElem hjt]
          generalize li[j] = y at hy hmem hts
          obtain ⟨rx, hax⟩ : ∃ r, xa = some ⟨r, 0, none⟩ := by
            rcases HX.out.2.2 with ⟨_, hnil⟩ | ⟨r, h1, _⟩
            · have := congrArg List.length hnil; simp at this; subst this; simp at hjt
            · exact ⟨r, h1⟩
          obtain ⟨hPx, hrl1, hrw1⟩ := HX.out.at hax
          have hyc : (rowsE li)[j]? = some y.cells.toList := by simp [hy]
          have hcx : ∀ d, wr.cell? ⟨rx, d, none⟩ = wa.cell? ⟨rx, d, none⟩ := fun d => cell_of_block (hfr.block rx hrl1 (by show ¬ rx = wm.heap.size; omega)) d
          have hro := rooms_old hrok y.r
          have hrs := rooms_step hrok y
          rw [← hts] at hrs
          have hpl := put_length y.r (.int .i64 ((cntR (li.take j) y.r : Int) + 1)) rl
          have hcle : cntR (li.take j) y.r ≤ 40 := by
            have h1 : cntR (li.take j) y.r ≤ (li.take j).length := List.countP_le_length
            rw [List.length_take] at h1
            omega
          obtain ⟨ya, yr, yb⟩ := y
          have x0 : wr.cell? ⟨rx, j * 3, none⟩ = some (.string ya) := (hcx _).trans (hrw1.cell (d := 0) hyc rfl)
          have x1 : wr.cell? ⟨rx, j * 3 + 1, none⟩ = some (.string yr) := (hcx _).trans (hrw1.cell (d := 1) hyc rfl)
          have x2 : wr.cell? ⟨rx, j * 3 + 2, none⟩ = some (.string yb) := (hcx _).trans (hrw1.cell (d := 2) hyc rfl)
          have hcle' : cntR (li.take j) yr ≤ 40 := hcle
          have hpl' : (putS yr (.int .i64 ((cntR (li.take j) yr : Int) + 1)) rl).length ≤ rl.length + 1 := hpl
          have hysz : yr.size ≤ maxLen := HSR.out ⟨ya, yr, yb⟩ hmem
          have hwr1 : IntKind.i64.wrap ((cntR (li.take j) yr : Int) + 1) = (cntR (li.take j) yr : Int) + 1 := by rw [IntKind.wrap_i64]; omega
          have hbX : Below wr.heap.size wr (wr.alloc (.cells #[.string ya, .string yr, .string yb] 49)) := (Below.refl _ _).alloc (Nat.le_refl _) _
          have HMS := Lib.hid (hms.below hbX hms.lt)
          have HRO := Lib.hid hro
          have HRS := Lib.hid hrs
          have HFR := Lib.hid (hfr.trans (Fr.of_below hbX))
          have hrwr : rx < wr.heap.size := Nat.lt_of_lt_of_le hrl1 hfr.size
          subst hax
          clear hy hmem hts hyc hcx hro hrs hrok hms hfr hrw1 hbX
          go_wp2_with (first
            | (at_lookup; refine lookupS _ rfl _ _ 59 rfl 9 3 Tryz.underlying9 Tryz.underlying59 _ (zeroInt _) wm.heap.size rl rfl HMS.out yr rfl hysz _ HRO.out ?_)
            | (at_mapUpdate; refine updateS _ rfl _ _ _ 59 rfl 9 3 Tryz.underlying9 Tryz.underlying59 wm.heap.size rl rfl HMS.out (by unfold maxLen; omega) yr rfl hysz _ rfl ?_)
            | fail)
          intro wu hmu hturn
          have HFU := Lib.hid (HFR.out.trans (Fr.of_turned (S := fun i => i = wm.heap.size) (P := Tryz.prog) (kt := 9) HMS.out hturn rfl))
          have HMU := Lib.hid hmu
          clear hmu hturn
          go_wp2_with fail
          exact ⟨⟨j + 1, _, by omega, by go_num, HRS.out, by omega, HMU.out, HFU.out⟩, by simp [intOf]; omega⟩
        · obtain rfl : j = li.length := by omega
          rw [List.take_length] at hrok
          have HRK := Lib.hid hrok
          have HMS := Lib.hid hms
          have HTQ := Lib.hid (HTA.out.same (hfr.block g (by have := hfr.size; omega) (by show ¬ g = wm.heap.size; omega)) (hfr.block b (by omega) (by show ¬ b = wm.heap.size; omega)))
          have HBQ := Lib.hid (Below.of_fr HBA.out hfr HBA.out.size (fun i hi => by have := HB.out.size; omega))
          clear hrok hms hfr
          obtain ⟨wq, hren⟩ : ∃ wn : World, wn = wr := ⟨_, rfl⟩
          subst hren
          go_wp2_with (first
            | (at_range; refine wpList_range_own _ rfl _ 59 rfl 9 3 lawS Tryz.underlying59 hR wm.heap.size rl.length (MD rl) rfl HMS.out ?_; intro w0 hrg0 hg0 hs0)
            | fail)
          have HAS0 := Lib.hid (show ∀ e ∈ li, Maps.has (MD rl) (lk e.r) = true from fun e he => rooms_has HRK.out he)
          have HTW := Lib.hid (HTQ.out.same (hg0.block g (blk_lt HTQ.out.blk) (by simp)) (hg0.block b HTQ.out.mp.lt (by simp)))
          have HBW := Lib.hid (HBQ.out.grown hg0 HBQ.out.size (fun j hj => by cases hj))
          have HRG0 := Lib.hid hrg0
          have hwq : wm.heap.size < wq.heap.size := HMS.out.lt
          clear hrg0 hg0 hs0
          go_frame
          go_loopw [10] (fun v wx => ∃ (left : Lit → Bool) (cnt : Nat), wx.ranges Tryz.prog 9 hR wm.heap.size wq.heap.size rl.length (MD rl) left cnt ∧ v = .int .i64 (seenN left li) ∧ (∀ z, left z = true → Maps.has (MD rl) z = true) ∧ Tab wx g b sX 30 li ∧ Below w.heap.size w wx) (fun _ wx => wx.rangeLeft wm.heap.size wq.heap.size)
          case atStart => exact ⟨_, _, HRG0.out, by rw [seen_none HAS0.out]; rfl, fun z h => h, HTW.out, HBW.out⟩
          case round =>
            obtain ⟨left, cnt, hrg, rfl, hhas, htab, hbw3⟩ := hrel
            have HRGP := Lib.hid hrg
            obtain ⟨wp, hren⟩ : ∃ wn : World, wn = wr := ⟨_, rfl⟩
            subst hren
            go_wp2_with (first
              | (at_next; refine wpList_next_ranges _ rfl _ rfl 9 lawS hR encStr (fun v : Value => v) (fun key kl hk => by obtain ⟨x, hx, _⟩ := Maps.keyOf_str Tryz.underlying9 hk; exact ⟨x, hx⟩) (fun v y hv => ⟨v, rfl⟩) wm.heap.size wq.heap.size rl.length _ _ _ rfl hrg ?_ ?_)
              | fail)
            · intro hc0 hl0
              have HTL := Lib.hid htab
              have HBL := Lib.hid hbw3
              have hse := seen_all (l := li) hl0
              rw [hse]
              clear htab hbw3 hhas hrg hse hl0 hc0
              go_wp2_with fail
              refine (len_calls _ g b sX 30 li HTL.out).mono ?_
              rintro e wl ⟨rfl, rfl⟩
              go_wp2_with fail
              go_ret
              exact ⟨rfl, HBL.out⟩
            · intro x v kl yd yp w2 cnt2 hkey hlk hv hat hrg2 hlt' hg2 hs2 hen
              obtain ⟨x', ex, rfl, _⟩ := Maps.keyOf_str Tryz.underlying9 hkey
              obtain rfl : x = x' := encStr_inj ex
              have hlkx : lk (⟨x.toArray⟩ : ByteArray) = .string x := by simp [lk]
              have hyd : yd = .held v := by
                unfold hR at hv
                injection hv with hv
                injection hv with hv _
                exact hv.symm
              subst hyd
              have hvv : v = .int .i64 (((ofRoom ⟨x.toArray⟩ li).length : Nat) : Int) := by
                rw [cnt_of]
                exact rooms_at HRK.out (x := ⟨x.toArray⟩) (by rw [hlkx]; exact hhas _ hlk) (fun zd => by rw [hlkx]; exact hat zd)
              subst hvv
              have hseen : seenN (fun z => left z && !z.sameKey (.string x)) li = seenN left li + (ofRoom ⟨x.toArray⟩ li).length := by
                rw [cnt_of, ← hlkx]
                exact seen_step ⟨x.toArray⟩ (by rw [hlkx]; exact hlk) li
              have hs40 : seenN left li ≤ li.length := List.countP_le_length
              have hl40 : (ofRoom ⟨x.toArray⟩ li).length ≤ li.length := by rw [cnt_of]; exact List.countP_le_length
              have hwr1 : IntKind.i64.wrap ((seenN left li : Int) + ((ofRoom ⟨x.toArray⟩ li).length : Int)) = (seenN left li : Int) + ((ofRoom ⟨x.toArray⟩ li).length : Int) := by rw [IntKind.wrap_i64]; omega
              have HSEEN := Lib.hid hseen
              have HHAS := Lib.hid (show ∀ z, (left z && !z.sameKey (.string x)) = true → Maps.has (MD rl) z = true from fun z h => hhas z (by simp at h; exact h.1))
              have HT2 := Lib.hid (htab.same (hg2.block g (blk_lt htab.blk) (by intro e; injection e with e; omega)) (hg2.block b htab.mp.lt (by intro e; injection e with e; omega)))
              have HBW2 := Lib.hid (hbw3.grown hg2 hbw3.size (fun j hj => by injection hj with hj; have := HBQ.out.size; omega))
              have HRG2 := Lib.hid hrg2
              have HLT := Lib.hid hlt'
              simp only [encStr] at hen
              clear hkey hlk hv hat hrg2 hlt' hg2 hs2 hseen hhas htab hbw3 hrg ex hlkx
              go_wp2_with fail
              refine (ofE_calls w2 g b sX 30 li ⟨x.toArray⟩ HT2.out HRI.out (by omega)).mono ?_
              rintro e w3' ⟨⟨oa, on, oc⟩, rfl, hof, hb3⟩
              simp only [Sl.val]
              have hon : on = (ofRoom ⟨x.toArray⟩ li).length := by have := hof.1; simpa using this
              subst hon
              have HOF := Lib.hid hof
              have HT3' := Lib.hid (HT2.out.below hb3)
              have HBW3 := Lib.hid (HBW2.out.trans (hb3.mono HBW2.out.size))
              have HRG3 := Lib.hid (HRG2.out.kept (grown_of_below hb3 none) (by simp) (by simp))
              clear hof hb3 hen
              go_wp2_with fail
              go_loopw [90] (fun v wx => ∃ j : Nat, j ≤ (ofRoom ⟨x.toArray⟩ li).length ∧ v = .int .i64 j ∧ Below w3'.heap.size w3' wx) (fun v _ => (ofRoom ⟨x.toArray⟩ li).length - (intOf v).toNat)
              case atStart => exact ⟨0, by omega, rfl, Below.refl _ _⟩
              case round =>
                obtain ⟨j, hj, rfl, hbj⟩ := hrel
                by_cases hjt : j < (ofRoom ⟨x.toArray⟩ li).length
                · obtain ⟨al, hal⟩ : ∃ al, (ofRoom ⟨x.toArray⟩ li)[j]? = some al := ⟨_, List.getElem?_eq_getElem hjt⟩
                  obtain ⟨y, hym, hya, hyr, hyg⟩ := of_at HRI.out hal
                  obtain ⟨ro, hao⟩ : ∃ r, oa = some ⟨r, 0, none⟩ := by
                    rcases HOF.out.2.2 with ⟨_, hnil⟩ | ⟨r, h1, _⟩
                    · have := congrArg List.length hnil; simp at this; rw [this] at hjt; simp at hjt
                    · exact ⟨r, h1⟩
                  obtain ⟨_, hrlo, hrwo⟩ := HOF.out.at hao
                  have hcell : ∀ (q : Nat) (al : ByteArray), (ofRoom ⟨x.toArray⟩ li)[q]? = some al → wr.cell? ⟨ro, q, none⟩ = some (.string al) := fun q al h => by
                    have h1 : (srows (ofRoom ⟨x.toArray⟩ li))[q]? = some [.string al] := by simp [h]
                    have := (hbj.cell (p := ⟨ro, q * 1 + 0, none⟩) hrwo.lt).trans (hrwo.cell (d := 0) h1 rfl)
                    simpa using this
                  have q0 := hcell j al hal
                  have hprev : j = 0 ∨ ∃ p, j = p + 1 ∧ ∃ pal, wr.cell? ⟨ro, p, none⟩ = some (.string pal) ∧ Op.bytesLess pal.toList al.toList = true := by
                    rcases Nat.eq_zero_or_pos j with h | h
                    · exact .inl h
                    · obtain ⟨p, rfl⟩ : ∃ p, j = p + 1 := ⟨j - 1, by omega⟩
                      obtain ⟨pal, hpal⟩ : ∃ pal, (ofRoom ⟨x.toArray⟩ li)[p]? = some pal := ⟨_, List.getElem?_eq_getElem (by omega)⟩
                      exact .inr ⟨p, rfl, pal, hcell p pal hpal, of_rise HRI.out hpal hal⟩
                  have hrowr : ro < wr.heap.size := Nat.lt_of_lt_of_le hrlo hbj.size
                  have hasz : al.size ≤ maxLen := by rw [← hya]; exact HSM.out y hym
                  have HTY := Lib.hid (HT3'.out.below hbj)
                  have HBJ := Lib.hid hbj
                  have HYG := Lib.hid hyg
                  obtain ⟨za, zr, zb⟩ := y
                  obtain rfl : zr = ⟨x.toArray⟩ := ba_eq (by have h := hyr; rw [ByteArray.toList_eq, ByteArray.toList_eq] at h; simpa using h)
                  subst hao
                  clear hal hym hya hyr hyg hrwo hcell hbj
                  go_wp2_with fail
                  refine (get_calls wr g b sX 30 li al HTY.out hasz).mono ?_
                  rintro e wg ⟨rfl, hbg⟩
                  rw [HYG.out]
                  have v0 : (wg.alloc (.cells #[.string za, .string ⟨x.toArray⟩, .string zb] 49)).cell? ⟨wg.heap.size, 1, none⟩ = some (.string ⟨x.toArray⟩) := cell_at (j := 1) (heap_new_at wg _ _ rfl) rfl
                  have hbw : Below wr.heap.size wr (wg.alloc (.cells #[.string za, .string ⟨x.toArray⟩, .string zb] 49)) := hbg.alloc hbg.size _
                  have HBW := Lib.hid (HBJ.out.trans (hbw.mono HBJ.out.size))
                  unfold getV
                  rcases hprev with rfl | ⟨p, hpj, pal, hpc, hless⟩
                  · clear hbg hbw
                    go_wp2_with fail
                    exact ⟨⟨1, by omega, rfl, HBW.out⟩, by simp [intOf]; omega⟩
                  · have hpc2 : (wg.alloc (.cells #[.string za, .string ⟨x.toArray⟩, .string zb] 49)).cell? ⟨ro, p, none⟩ = some (.string pal) := (hbw.cell (p := ⟨ro, p, none⟩) (World.block_lt_of_cell? wr _ hpc)).trans hpc
                    have hwr2 : IntKind.i64.wrap ((j : Int) - 1) = (p : Int) := by
                      rw [show ((j : Int) - 1) = (p : Int) by omega]
                      rw [IntKind.wrap_i64]; omega
                    have hgt : decide ((0 : Int) < (j : Int)) = true := decide_eq_true (by omega)
                    have hjp : 0 < j := by omega
                    have hng : (!Op.bytesLess pal.toList al.toList) = false := by rw [hless]; rfl
                    have hplt : p < (ofRoom ⟨x.toArray⟩ li).length := by omega
                    clear hbg hbw hpc hpj
                    go_wp2_with fail
                    exact ⟨⟨j + 1, by omega, by go_num, HBW.out⟩, by simp [intOf]; omega⟩
                · obtain rfl : j = (ofRoom ⟨x.toArray⟩ li).length := by omega
                  have HBJ := Lib.hid hbj
                  clear hbj
                  go_wp2_with fail
                  have HRJ := Lib.hid (HRG3.out.kept (grown_of_below HBJ.out none) (by simp) (by simp))
                  exact ⟨⟨_, _, HRJ.out, by rw [HSEEN.out]; simp, HHAS.out, HT3'.out.below HBJ.out, HBW3.out.trans (HBJ.out.mono HBW3.out.size)⟩, by rw [HRJ.out.left_eq, HRGP.out.left_eq]; exact HLT.out⟩

end Go.Proofs.YtgnoaeldmpbjmaaGreatDoor
