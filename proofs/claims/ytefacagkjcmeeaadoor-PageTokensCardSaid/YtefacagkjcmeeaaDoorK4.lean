/- PageTokens, the walk. -/
import Derived.Test.YtefacagkjcmeeaaDoorK3
namespace Go.Proofs.YtefacagkjcmeeaaDoor
open Go.RowKit S
open Go.Maps (Keyed string_keyed)

def sX : ByteArray := ⟨#[120]⟩

theorem own_string {w : World} {base n : Nat} {v : Value} {ts : List ByteArray} (h : w.ownsRow base 9 1 v n (ts.map Value.string)) :
    ∃ (A : Option Addr) (cap : Nat), v = .slice A n cap ∧ ∀ j t, ts[j]? = some t → ∃ g, A = some ⟨g, 0, none⟩ ∧ base ≤ g ∧ g < w.heap.size ∧ w.cell? ⟨g, j, none⟩ = some (.string t) := by
  obtain ⟨hl, ⟨rfl, rfl⟩ | ⟨g, cap, cur, rfl, hb, hh, _, _, _, hcur⟩⟩ := h
  · refine ⟨none, 0, rfl, fun j t hj => ?_⟩
    simp at hl
    subst hl
    simp at hj
  · refine ⟨_, cap, rfl, fun j t hj => ⟨g, rfl, hb, (Array.getElem?_eq_some_iff.1 hh).1, ?_⟩⟩
    have : (ts.map Value.string)[j]? = some (.string t) := by simp [hj]
    rw [← hcur] at this
    have hj2 := (List.getElem?_eq_some_iff.1 this).1
    rw [List.length_take] at hj2
    rw [List.getElem?_take_of_lt (by omega)] at this
    simp only [World.cell?, hh]
    simpa using this

set_option maxRecDepth 100000 in
set_option maxHeartbeats 1600000 in
theorem tokens_law (w : World) (A : Option Addr) (n c : Nat) (xs : Nat → Int) (hn : n ≤ 9223372036854775807) (htab : Tab w)
    (hr : 0 < n → ∃ ad : Addr, A = some ad ∧ ad.block < w.heap.size ∧ ∀ j, j < n → w.cell? (ad.add j) = some (.int .u32 (xs j))) (hx : ∀ j, 0 ≤ xs j ∧ xs j ≤ 4294967295) :
    Calls Tryd.prog 4 #[.slice A n c] w fun e w' => e = .returned (.bool true) ∧ Below w.heap.size w w' := by
  have HT := Lib.hid htab
  have HA := Lib.hid (fun W (h : Below w.heap.size w W) => awake_calls W (htab.below h))
  have HR := Lib.hid hr
  have HX := Lib.hid hx
  have hpos := htab.pos
  have hmm := @run_makeMap Tryd.prog
  clear htab hr hx
  by_cases hn60 : n ≤ 60
  · go_enter Tryd.func4, Tryd.ntmps4
    go_wp2_with fail
    refine (HA.out w (Below.refl _ _)).mono ?_
    rintro e w1 ⟨rfl, hb1⟩
    have HB1 := Lib.hid hb1
    have hs1 := hb1.size
    clear HA hb1
    go_wp2_with fail
    refine (new_calls w1 20 100 (by omega) (by omega) (by omega) (by omega)).mono ?_
    rintro e w2 ⟨rfl, hw2⟩
    have HBK := Lib.hid (show Bk w2 w1.heap.size none 0 none ⟨20, 100, -9223372036854775808, []⟩ by rw [hw2]; exact ⟨heap_alloc_new _ _, .inl ⟨rfl, rfl, rfl, rfl⟩, by simp⟩)
    have HB2 := Lib.hid (show Below w.heap.size w w2 by rw [hw2]; exact HB1.out.alloc HB1.out.size _)
    clear hw2 HB1
    go_wp2_with fail
    go_loopw [30] (fun c30 wr => TRel w w1.heap.size n c30 wr) (fun j _ => n - (intOf j).toNat)
    case atStart => exact ⟨0, none, 0, none, _, by omega, rfl, ⟨rfl, rfl, .inr ⟨rfl, rfl⟩, rfl, by simp, by simp⟩, by simp, HBK.out, by simp, HB2.out⟩
    case round =>
      obtain ⟨i, A1, cap1, ro1, b1, hi, rfl, hT, hsz, hB, hro, hbl⟩ := hrel
      clear HBK HB2
      by_cases hlt : i < n
      · obtain ⟨ad, rfl, hadl, hcells⟩ := HR.out (by omega)
        have hcell := (hbl.cell (p := ad.add i) (by rw [block_add]; exact hadl)).trans (hcells i hlt)
        obtain ⟨hx0, hx1⟩ := HX.out i
        obtain ⟨ud, hud⟩ : ∃ ud : Nat, xs i = ud := ⟨(xs i).toNat, by omega⟩
        rw [hud] at hcell hx0 hx1
        have hlen := hT.len
        have HP := Lib.hid (put_calls wr w1.heap.size A1 cap1 ro1 b1 ud i sA sQ sX (by omega) (by rw [hT.most]; omega) hB (by omega) (HT.out.below hbl) (by omega) (by intro e; have := hro 0 e; omega))
        have HTI := Lib.hid hT
        have HSZ := Lib.hid hsz
        have HRO := Lib.hid hro
        have HBL := Lib.hid hbl
        clear hud hT hB hro hbl hlen hcells hsz
        go_wp2_with fail
        refine HP.out.mono ?_
        rintro e w3 ⟨u, A2, cap2, ro2, rfl, hu, hfr, _, hB2, hro2, hF2⟩
        have hTI := HTI.out.put (by omega) ⟨tokOf u, sA, sQ, (b1.shed i).now, .string sX, rfl⟩ rfl hfr
        have hsz2 : ∀ q ∈ ({ b1.shed i with l := (b1.shed i).l ++ [⟨tokOf u, sA, sQ, (b1.shed i).now, .string sX, rfl⟩] } : BK).l, q.tok.size ≤ maxLen := by
          intro q hq
          rcases List.mem_append.1 hq with hq | hq
          · refine HSZ.out q ?_
            have h1 : q ∈ (b1.clear i).l := by
              unfold BK.shed at hq
              split at hq
              · exact List.mem_of_mem_tail hq
              · exact hq
            exact (List.mem_filter.1 h1).1
          · simp at hq
            subst hq
            exact tok_size hu
        have HBL2 := Lib.hid (fr_below HBL.out hF2 hs1 HRO.out)
        have HRO2 := Lib.hid (ge_of HBL.out.size HRO.out hro2)
        generalize hbk : ({ b1.shed i with l := (b1.shed i).l ++ [⟨tokOf u, sA, sQ, (b1.shed i).now, .string sX, rfl⟩] } : BK) = b2 at *
        have HTI2 := Lib.hid hTI
        have HSZ2 := Lib.hid hsz2
        have HB3 := Lib.hid hB2
        have hl2 := hTI.len
        have hl60 : b2.l.length ≤ 60 := by omega
        clear hu hfr hB2 hro2 hF2 HP hTI hsz2 HBL HRO HTI HSZ hbk hl2
        go_wp2_with fail
        have hb4 : Below w3.heap.size w3 (w3.alloc (.map #[] 0)) := (Below.refl _ _).alloc (Nat.le_refl _) _
        refine (tokens_calls _ w1.heap.size A2 cap2 ro2 b2 hl60 (HB3.out.below hb4)).mono ?_
        rintro e w5 ⟨v, rfl, hown, hb5⟩
        have hmap0 : w5.ownsMap Tryd.prog 9 (plainElem (H := Unit) Tryd.prog 3) w3.heap.size 0 (.map []) := by
          have h0 := World.ownsMap_made w3 Tryd.prog 9 (plainElem (H := Unit) Tryd.prog 3)
          obtain ⟨es, clock, hb, rest⟩ := h0
          exact ⟨es, clock, (hb5.block _ (by simp)).trans hb, rest⟩
        have hrow : w5.ownsRow (w3.heap.size + 1) 9 1 v b2.l.length ((b2.l.map (·.tok)).map Value.string) := by
          have he : ((b2.l.map (·.tok)).map Value.string) = b2.l.map (fun k => Value.string k.tok) := by rw [List.map_map]; rfl
          rw [he]
          simpa using hown
        obtain ⟨AT, capT, rfl, hTC⟩ := own_string hrow
        have HTC := Lib.hid hTC
        have HMAP := Lib.hid hmap0
        have HB5 := Lib.hid (hb4.trans (hb5.mono hb4.size))
        clear hown hb5 hb4 hrow hTC hmap0
        go_wp2_with fail
        have hgm : w3.heap.size + 1 ≠ 0 := by omega
        go_loopw [43] (fun c43 wr => ∃ k : Nat, k ≤ b2.l.length ∧ c43 = .int .i64 k ∧ wr.ownsMap Tryd.prog 9 (plainElem (H := Unit) Tryd.prog 3) w3.heap.size k (seenOf ((b2.l.map (·.tok)).take k)) ∧ w5.grownBy wr (some w3.heap.size)) (fun j _ => b2.l.length - (intOf j).toNat)
        case atStart => exact ⟨0, by omega, rfl, HMAP.out, ⟨rfl, rfl, rfl, Nat.le_refl _, fun _ _ _ => rfl⟩⟩
        case round =>
          obtain ⟨k, hk, rfl, hmap, hgr⟩ := hrel
          clear HMAP
          by_cases hlt2 : k < b2.l.length
          · have hq : b2.l[k]? = some b2.l[k] := List.getElem?_eq_getElem hlt2
            generalize b2.l[k] = q at hq
            obtain ⟨gt, rfl, hgt1, hgt2, hcell0⟩ := HTC.out k q.tok (by simp [hq])
            have hcell : wr.cell? ⟨gt, k, none⟩ = some (.string q.tok) := hgr.cell hcell0 (by simp; omega)
            have hnin : q.tok ∉ (b2.l.map (·.tok)).take k := by
              have := nodup_take HTI2.out.nodup (k := k) (by simp; exact hlt2)
              have he : (b2.l.map (·.tok))[k]'(by simp; exact hlt2) = q.tok := by
                have := List.getElem?_eq_getElem hlt2
                rw [hq] at this
                simp only [List.getElem_map]
                rw [← Option.some.inj this]
              rw [he] at this
              exact this
            have hkey : keyOf Tryd.prog 9 (.string q.tok) = some (keyL q.tok) := WideMaps.keyOf_string_mk Tryd.underlying9 (HSZ2.out q (List.mem_of_getElem? hq))
            have HKEY := Lib.hid hkey
            have HNOT := Lib.hid (seen_not hnin)
            have HSN := Lib.hid (show seenOf ((b2.l.map (·.tok)).take (k + 1)) = (seenOf ((b2.l.map (·.tok)).take k)).put (keyL q.tok) one1 by rw [map_drop_one b2.l k q hq, seen_snoc])
            have HMAP := Lib.hid hmap
            have HGR := Lib.hid hgr
            have hgl := hgr.size
            clear hq hcell0 hnin hkey hmap hgr hgt1
            go_wp2_with (first
              | (at_lookup
                 first
                 | (refine wpList_lookup_own_int _ rfl _ _ 41 rfl 9 3 .i64 (string_keyed Tryd.underlying9) Tryd.underlying41 Tryd.underlying3 (zeroInt _) w3.heap.size (k + 1) _ rfl hown1 _ _ rfl HKEY.out ?_
                    intro c hat hwc
                    rw [Maps.atKey_put_same (seen_tidy _).isMap (isKey _)] at hat
                    injection hat with hat
                    injection hat with _ hat
                    subst hat
                    clear hwc)
                 | (refine wpList_lookup_own_int _ rfl _ _ 41 rfl 9 3 .i64 (string_keyed Tryd.underlying9) Tryd.underlying41 Tryd.underlying3 (zeroInt _) w3.heap.size k _ rfl HMAP.out _ _ rfl HKEY.out ?_
                    intro c hat hwc
                    rw [Maps.atKey_of_not_has HNOT.out] at hat
                    injection hat with hat
                    injection hat with _ hat
                    subst hat
                    clear hwc))
              | (at_mapUpdate
                 refine wpList_mapUpdate_own _ rfl _ _ _ 41 rfl 9 3 (string_keyed Tryd.underlying9) Tryd.underlying41 _ w3.heap.size k _ rfl HMAP.out (by unfold maxLen; omega) _ _ _ rfl rfl HKEY.out _ [] (plainElem_int Tryd.underlying3 (by decide)) ?_
                 intro w6 hown1 hgrow1))
            have hown1' : w6.ownsMap Tryd.prog 9 (plainElem (H := Unit) Tryd.prog 3) w3.heap.size (k + 1) (seenOf ((b2.l.map (·.tok)).take (k + 1))) := by
              rw [HSN.out]
              exact hown1
            exact ⟨⟨k + 1, by omega, by go_num, hown1', ⟨hgrow1.os.trans HGR.out.os, hgrow1.tape.trans HGR.out.tape, hgrow1.output.trans HGR.out.output, Nat.le_trans HGR.out.size hgrow1.size, fun j hj hne => (hgrow1.block j (by omega) hne).trans (HGR.out.block j hj hne)⟩⟩, by simp [intOf]; omega⟩
          · obtain rfl : k = b2.l.length := by omega
            have HMAP := Lib.hid hmap
            have hbr : Below w3.heap.size w3 wr := HB5.out.grown hgr HB5.out.size (fun j hj => by injection hj with hj; omega)
            have HBR := Lib.hid hbr
            have hsize : Maps.size (seenOf ((b2.l.map (·.tok)).take b2.l.length)) = b2.l.length := by
              have := seen_size (b2.l.map (·.tok)) HTI2.out.nodup b2.l.length (by simp)
              exact this
            have hmin : (((b2.l.length : Nat) : Int) == min ((i : Int) + 1) 20) = true := by
              have := HTI2.out.len
              rw [this]
              simp
              omega
            have hsl := HTI2.out.len
            clear hmap hgr hbr hsl hgm hk hlt2
            go_wp2_with (at_len; refine wpList_len_own _ rfl _ 41 rfl 9 3 Tryd.underlying41 _ w3.heap.size b2.l.length _ rfl HMAP.out ?_; rw [hsize])
            exact ⟨⟨i + 1, A2, cap2, ro2, b2, by omega, by go_num, HTI2.out, HSZ2.out, HB3.out.below HBR.out, HRO2.out, HBL2.out.trans (HBR.out.mono HBL2.out.size)⟩, by simp [intOf]; omega⟩
      · obtain rfl : i = n := by omega
        have HBL := Lib.hid hbl
        clear hT hsz hB hro hbl hmm
        go_wp2_with fail
        go_ret
        exact ⟨rfl, HBL.out⟩
  · go_enter Tryd.func4, Tryd.ntmps4
    go_wp2_with fail
    refine (HA.out w (Below.refl _ _)).mono ?_
    rintro e w1 ⟨rfl, hb1⟩
    have HB1 := Lib.hid hb1
    clear hb1 hmm
    go_wp2_with fail
    refine (HA.out w1 HB1.out).mono ?_
    rintro e w2 ⟨rfl, hb2⟩
    have HB2 := Lib.hid (HB1.out.trans (hb2.mono HB1.out.size))
    clear HA hb2 HB1
    go_wp2_with fail
    go_ret
    exact ⟨rfl, HB2.out⟩
end Go.Proofs.YtefacagkjcmeeaaDoor
