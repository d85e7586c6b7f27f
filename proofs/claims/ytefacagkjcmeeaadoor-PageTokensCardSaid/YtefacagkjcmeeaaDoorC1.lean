import Derived.Test.YtefacagkjcmeeaaDoorC0
namespace Go.Proofs.YtefacagkjcmeeaaDoor
open Go.RowKit I

theorem info3 : (Tryd.prog.info? 3).map (fun i => (i.zero, i.size, i.bytes)) = some (some (.int .i64 0), 1, 8) := by kernel_rfl

/-- Another row of the call's own is no block of the book's. -/
theorem own_apart {w : World} {base e n g cap : Nat} {v : Value} {xs : List Value} {A : Option Addr} {ro : Option Nat} {b : BK} (h : w.ownsRow base e 1 v n xs) (hB : Bk w g A cap ro b) (h1 : e ≠ 54) (h2 : e ≠ 57) :
    ∀ k, v.ownBlock = some k → k ≠ g ∧ ro ≠ some k := by
  intro k hk
  rcases h.2 with ⟨rfl, _⟩ | ⟨g', cap', cur, rfl, _, hh, _⟩
  · cases hk
  · simp [Value.ownBlock] at hk
    subst hk
    refine ⟨fun e => ?_, fun e => ?_⟩
    · subst e
      have := hB.1
      rw [hh] at this
      injection this with this
      injection this with _ this
      exact h1 this
    · rcases hB.2.1 with ⟨_, _, _, h⟩ | ⟨r, _, h, _, ⟨c, hr, _⟩⟩
      · rw [h] at e; cases e
      · rw [h] at e
        cases e
        rw [hh] at hr
        injection hr with hr
        injection hr with _ hr
        exact h2 hr
theorem own_fr {w w' : World} {base e n g cap : Nat} {v : Value} {xs : List Value} {A : Option Addr} {ro : Option Nat} {b : BK} (h : w.ownsRow base e 1 v n xs) (hB : Bk w g A cap ro b) (h1 : e ≠ 54) (h2 : e ≠ 57)
    (hF : Fr (fun k => k = g ∨ ro = some k) w w') : w'.ownsRow base e 1 v n xs := by
  have hap := own_apart h hB h1 h2
  obtain ⟨hl, h0⟩ := h
  refine ⟨hl, ?_⟩
  rcases h0 with h0 | ⟨g', cap', cur, rfl, hb, hh, rest⟩
  · exact .inl h0
  · obtain ⟨a1, a2⟩ := hap g' rfl
    refine .inr ⟨g', cap', cur, rfl, hb, ?_, rest⟩
    rw [hF.block g' (Array.getElem?_eq_some_iff.1 hh).1 (by rintro (e | e); exact a1 e; exact a2 e)]
    exact hh

theorem block_add (a : Addr) (n : Nat) : (a.add n).block = a.block := by unfold Addr.add; split <;> rfl

theorem own_read {w : World} {base n : Nat} {v : Value} {ts : List Int} (h : w.ownsRow base 3 1 v n (ts.map (Value.int .i64))) :
    ∃ (A : Option Addr) (cap : Nat), v = .slice A n cap ∧ ∀ j t, ts[j]? = some t → ∃ g, A = some ⟨g, 0, none⟩ ∧ w.cell? ⟨g, j, none⟩ = some (.int .i64 t) := by
  obtain ⟨hl, ⟨rfl, rfl⟩ | ⟨g, cap, cur, rfl, _, hh, _, _, _, hcur⟩⟩ := h
  · refine ⟨none, 0, rfl, fun j t hj => ?_⟩
    simp at hl
    subst hl
    simp at hj
  · refine ⟨_, cap, rfl, fun j t hj => ⟨g, rfl, ?_⟩⟩
    have : (ts.map (Value.int .i64))[j]? = some (.int .i64 t) := by simp [hj]
    rw [← hcur] at this
    have hj2 := (List.getElem?_eq_some_iff.1 this).1
    rw [List.length_take] at hj2
    rw [List.getElem?_take_of_lt (by omega)] at this
    simp only [World.cell?, hh]
    simpa using this

theorem own_slice {w : World} {base e n : Nat} {v : Value} {xs : List Value} (h : w.ownsRow base e 1 v n xs) : ∃ (A : Option Addr) (cap : Nat), v = .slice A n cap := by
  rcases h.2 with ⟨rfl, rfl⟩ | ⟨g, cap, cur, rfl, _⟩
  · exact ⟨none, 0, rfl⟩
  · exact ⟨_, cap, rfl⟩

/-- What stands at the first loop's head. -/
def CRel (w : World) (g : Nat) (k : Int) (n : Nat) (c10 c12 c41 : Value) (wr : World) : Prop :=
  ∃ (i : Nat) (ts : List Int) (nw : Int) (A : Option Addr) (cap : Nat) (ro : Option Nat) (b : BK), i ≤ n ∧ ts.length = i ∧ 0 ≤ nw ∧ nw ≤ 255 ∧ c10 = .int .i64 nw ∧ c41 = .int .i64 i ∧
    wr.ownsRow w.heap.size 3 1 c12 i (ts.map (Value.int .i64)) ∧ CInv k b ts nw ∧ Bk wr g A cap ro b ∧ (∀ r, ro = some r → w.heap.size ≤ r) ∧ Below w.heap.size w wr

set_option maxRecDepth 100000 in
set_option maxHeartbeats 1600000 in
theorem clears_calls (w : World) (A : Option Addr) (n c : Nat) (xs : Nat → Int) (life at_ : Int) (hl0 : 0 ≤ life) (hl1 : life ≤ 255) (ha0 : 0 ≤ at_) (ha1 : at_ ≤ 255) (hn : n ≤ 9223372036854775807) (htab : Tab w)
    (hr : 0 < n → ∃ ad : Addr, A = some ad ∧ ad.block < w.heap.size ∧ ∀ j, j < n → w.cell? (ad.add j) = some (.int .u8 (xs j))) (hx : ∀ j, 0 ≤ xs j ∧ xs j ≤ 255) :
    Calls Tryd.prog 5 #[.slice A n c, .int .u8 life, .int .u8 at_] w fun e w' => e = .returned (.bool true) ∧ Below w.heap.size w w' := by
  have HT := Lib.hid htab
  have HA := Lib.hid (awake_calls w htab)
  have HR := Lib.hid hr
  have HX := Lib.hid hx
  have hpos := htab.pos
  clear htab hr hx
  by_cases hn20 : n ≤ 20
  · go_enter Tryd.func5, Tryd.ntmps5
    go_wp2_with fail
    refine HA.out.mono ?_
    rintro e w1 ⟨rfl, hb1⟩
    have HB1 := Lib.hid hb1
    have hs1 := hb1.size
    clear HA hb1
    go_wp2_with fail
    refine (new_calls w1 20 (1 + life) (by omega) (by omega) (by omega) (by omega)).mono ?_
    rintro e w2 ⟨rfl, hw2⟩
    have HBK := Lib.hid (show Bk w2 w1.heap.size none 0 none ⟨20, 1 + life, -9223372036854775808, []⟩ by rw [hw2]; exact ⟨heap_alloc_new _ _, .inl ⟨rfl, rfl, rfl, rfl⟩, by simp⟩)
    have HB2 := Lib.hid (show Below w.heap.size w w2 by rw [hw2]; exact HB1.out.alloc HB1.out.size _)
    clear hw2 HB1
    go_wp2_with fail
    go_loopw [10, 12, 41] (fun c10 c12 c41 wr => CRel w w1.heap.size (1 + life) n c10 c12 c41 wr) (fun _ _ i _ => n - (intOf i).toNat)
    case atStart => exact ⟨0, [], 0, none, 0, none, _, by omega, rfl, by omega, by omega, rfl, rfl, ⟨rfl, .inl ⟨rfl, rfl⟩⟩, ⟨rfl, rfl, .inr ⟨rfl, rfl⟩, rfl, by simp⟩, HBK.out, by simp, HB2.out⟩
    case round =>
      obtain ⟨i, ts, nw, A1, cap1, ro1, b1, hi, hts, h0, h1, rfl, rfl, hown, hC, hB, hro, hbl⟩ := hrel
      by_cases hlt : i < n
      · obtain ⟨ad, rfl, hadl, hcells⟩ := HR.out (by omega)
        have hcell := (hbl.cell (p := ad.add i) (by rw [block_add]; exact hadl)).trans (hcells i hlt)
        obtain ⟨hx0, hx1⟩ := HX.out i
        have hgl := hB.lt
        have htab : Tab wr := HT.out.below hbl
        generalize xs i = t at *
        have hm0 : nw ≤ max nw t := by omega
        have hm1 : max nw t ≤ 255 := by omega
        have hts20 : ts.length < 20 := by omega
        have hll : b1.l.length ≤ 20 := by rw [hC.length]; have := lives_length (1 + life) nw ts; omega
        have HP := Lib.hid (put_calls wr w1.heap.size A1 cap1 ro1 b1 i (max nw t) sA sQ i hll (by rw [hC.most]; omega) hB (by omega) htab (by omega) (by intro e; have := hro 0 e; omega))
        have HOWN := Lib.hid hown
        have HC := Lib.hid hC
        have HB := Lib.hid hB
        have HRO := Lib.hid hro
        have HBL := Lib.hid hbl
        have HTS := Lib.hid hts
        clear hown hC hB hro hbl hcells htab hll hts
        have hi31 : (i : Int) < 4294967296 := by omega
        obtain ⟨i0, hi0, hz0, hz1, hz2⟩ := info_parts info3
        have HI0 := Lib.hid hi0
        have HZ0 := Lib.hid hz0
        have HZ1 := Lib.hid hz1
        have HZ2 := Lib.hid hz2
        clear hi0 hz0 hz1 hz2
        go_wp2_with fail
        refine HP.out.mono ?_
        rintro e w3 ⟨u, A2, cap2, ro2, rfl, hu, _, _, hB2, hro2, hF2⟩
        have hown2 := own_fr HOWN.out HB.out (by decide) (by decide) hF2
        have HC2 := Lib.hid (HC.out.put (by omega) (by omega) (by omega) hm0 (by omega) hts20 ⟨tokOf u, sA, sQ, (b1.shed _).now, .int .i64 i, rfl⟩ rfl)
        have HBL2 := Lib.hid (fr_below HBL.out hF2 hs1 HRO.out)
        have HRO2 := Lib.hid (ge_of HBL.out.size HRO.out hro2)
        have HB2' := Lib.hid hB2
        have HOWN2 := Lib.hid hown2
        have hsz := HBL2.out.size
        clear hu hB2 hro2 hF2 hown2 HP
        go_wp2_with (at_builtin; refine wpList_append_own _ rfl (.tmp 56) (.tmp 58) 46 rfl w.heap.size 3 i0 (.int .i64 0) 1 8 Tryd.underlying46 HI0.out HZ0.out HZ1.out HZ2.out rfl (by decide) u12 i (ts.map (Value.int .i64)) rfl (HOWN2.out.alloc _) ⟨w3.heap.size, 0, none⟩ 1 1 [.int .i64 (max nw t)] rfl rfl ?c1 ?c2 ?c3 ?c4 ?c5 ?_)
        case c1 =>
          intro j u hj
          exact World.news_of_block (B := w3.heap.size) (cs := #[.int .i64 (max nw t)]) (t := 3) (fr := (0, 0)) (heap_alloc_new _ _) j u hj
        case c2 => simp [Value.oneCell']
        case c3 => unfold maxLen; omega
        case c4 => omega
        case c5 => simp; omega
        intro v' w4 hown4 hgrow _
        have hap := own_apart HOWN2.out HB2'.out (by decide) (by decide)
        have HOWN4 := Lib.hid hown4
        have HG4 := Lib.hid hgrow
        have HAP := Lib.hid hap
        clear hown4 hgrow hap
        go_wp2_with fail
        refine ⟨⟨i + 1, ts ++ [max nw t], max nw t, A2, cap2, ro2, _, by omega, by simp [HTS.out], by omega, hm1, rfl, by go_num, ?_, HC2.out, ?_, HRO2.out, ?_⟩, by simp [intOf]; omega⟩
        · have := HOWN4.out
          simpa using this
        · have hB3 := HB2'.out
          refine hB3.same ?_ ?_
          · exact (HG4.out.block _ (by simp; have := hB3.lt; omega) (fun e => (HAP.out _ e.symm).1 rfl)).trans (Below.heap_alloc _ _ _ hB3.lt)
          · intro r hr
            have hrl := hB3.2.1.lt r hr
            exact (HG4.out.block _ (by simp; omega) (fun e => (HAP.out _ e.symm).2 hr)).trans (Below.heap_alloc _ _ _ hrl)
        · exact (HBL2.out.alloc hsz _).grown HG4.out (by simp; omega) (fun j hj => (HOWN2.out.lt j hj).1)
      · obtain rfl : i = n := by omega
        have hmx : max nw at_ = max nw at_ := rfl
        obtain ⟨N, hN⟩ : ∃ N, N = max nw at_ := ⟨_, rfl⟩
        have hN0 : nw ≤ N := by omega
        have hN1 : N ≤ 255 := by omega
        have HN := Lib.hid hN
        have HOWN := Lib.hid hown
        have HC := Lib.hid hC
        have HB := Lib.hid hB
        have HRO := Lib.hid hro
        have HBL := Lib.hid hbl
        have HTS := Lib.hid hts
        obtain ⟨A12, cap12, rfl, hcells⟩ := own_read hown
        have HCELL := Lib.hid hcells
        clear hcells
        clear hN hmx hown hC hB hro hbl hts HBK HB2 HR
        go_wp2_with fail
        rw [← HN.out]
        go_loop [11, 67] (fun l j => ∃ j' : Nat, j' ≤ i ∧ j = .int .i64 j' ∧ l = .int .i64 ((livesOn (1 + life) N (ts.take j')).length : Nat)) (fun _ j => i - (intOf j).toNat)
        case atStart => exact ⟨0, by omega, rfl, rfl⟩
        case round =>
          obtain ⟨j, hj, rfl, rfl⟩ := hrel
          have hll : (livesOn (1 + life) N (ts.take j)).length ≤ j := Nat.le_trans (lives_length _ _ _) (by simp; omega)
          by_cases hlt2 : j < i
          · have hjl : j < ts.length := by rw [HTS.out]; exact hlt2
            have ht : ts[j]? = some ts[j] := List.getElem?_eq_getElem hjl
            generalize ts[j] = t at ht
            obtain ⟨gg, rfl, hc⟩ := HCELL.out j t ht
            obtain ⟨hb0, hb1⟩ := HC.out.bound t (List.mem_of_getElem? ht)
            have hstep : livesOn (1 + life) N (ts.take (j + 1)) = livesOn (1 + life) N (ts.take j) ++ (if N - t < 1 + life then [t] else []) := by
              rw [List.take_add_one, ht]
              unfold livesOn
              rw [List.filter_append]
              congr 1
              by_cases h : N - t < 1 + life <;> simp [h]
            have HST := Lib.hid hstep
            clear ht hstep
            by_cases hin : N - t < 1 + life
            · have HST2 := Lib.hid (show (livesOn (1 + life) N (ts.take (j + 1))).length = (livesOn (1 + life) N (ts.take j)).length + 1 by rw [HST.out, if_pos hin]; simp)
              go_wp2_with fail
              exact ⟨⟨j + 1, by omega, by go_num, by rw [HST2.out]; try go_num⟩, by simp [intOf]; omega⟩
            · have HST2 := Lib.hid (show (livesOn (1 + life) N (ts.take (j + 1))).length = (livesOn (1 + life) N (ts.take j)).length by rw [HST.out, if_neg hin]; simp)
              go_wp2_with fail
              exact ⟨⟨j + 1, by omega, by go_num, by rw [HST2.out]; try go_num⟩, by simp [intOf]; omega⟩
          · obtain rfl : j = i := by omega
            have htk : ts.take j = ts := List.take_of_length_le (by rw [HTS.out]; exact Nat.le_refl _)
            rw [htk] at hll ⊢
            obtain ⟨hC1, hn1⟩ := HC.out.clear (n := N) (by omega) (by omega) h0 hN0 (by omega)
            obtain ⟨hC2, hn2⟩ := hC1.clear (n := N) (by omega) (by omega) (by omega) (Int.le_refl _) (by omega)
            obtain ⟨hC3, hn3⟩ := hC2.clear (n := N + (1 + life)) (by omega) (by omega) (by omega) (by omega) (by omega)
            have e1 : (b1.clear N).l.length = (livesOn (1 + life) N ts).length := by rw [hC1.length]
            have e2 : ((b1.clear N).clear N).l.length = (livesOn (1 + life) N ts).length := by rw [hC2.length]
            have e3 : (((b1.clear N).clear N).clear (N + (1 + life))).l.length = 0 := by
              rw [hC3.length, lives_none (now := N) (fun t ht => (hC1.bound t ht).2) (Int.le_refl _)]; rfl
            have hl1 : b1.l.length ≤ 60 := by rw [HC.out.length]; have := lives_length (1 + life) nw ts; have := HTS.out; omega
            generalize hL : (livesOn (1 + life) N ts).length = L at *
            have HE1 := Lib.hid e1
            have HE2 := Lib.hid e2
            have HE3 := Lib.hid e3
            have hL60 : L ≤ 20 := by omega
            have HL1 := Lib.hid hl1
            clear hC1 hC2 hC3 hn1 hn2 hn3 e1 e2 e3 hl1 htk hL HCELL HOWN
            go_wp2_with fail
            refine (clear_book wr w1.heap.size A1 cap1 ro1 b1 N HL1.out HB.out).mono ?_
            rintro e w3 ⟨rfl, hB3, hF3⟩
            have HB3 := Lib.hid hB3
            have HBL3 := Lib.hid (fr_below HBL.out hF3 hs1 HRO.out)
            clear hB3 hF3 HB HBL
            go_wp2_with fail
            refine (tokens_calls w3 w1.heap.size A1 cap1 ro1 (b1.clear N) (by rw [HE1.out]; omega) HB3.out).mono ?_
            rintro e w4 ⟨v, rfl, hown4, hb4⟩
            rw [HE1.out] at hown4
            obtain ⟨A4, cap4, rfl⟩ := own_slice hown4
            have HB4 := Lib.hid (HB3.out.below hb4)
            have HBL4 := Lib.hid (HBL3.out.trans (hb4.mono HBL3.out.size))
            clear hown4 hb4 HB3 HBL3
            go_wp2_with fail
            refine (clear_book w4 w1.heap.size A1 cap1 ro1 (b1.clear N) N (by rw [HE1.out]; omega) HB4.out).mono ?_
            rintro e w5 ⟨rfl, hB5, hF5⟩
            rw [HE1.out, HE2.out]
            have HB5 := Lib.hid hB5
            have HBL5 := Lib.hid (fr_below HBL4.out hF5 hs1 HRO.out)
            clear hB5 hF5 HB4 HBL4
            go_wp2_with fail
            refine (clear_book w5 w1.heap.size A1 cap1 ro1 ((b1.clear N).clear N) (N + (1 + life)) (by rw [HE2.out]; omega) HB5.out).mono ?_
            rintro e w6 ⟨rfl, hB6, hF6⟩
            rw [HE2.out, HE3.out]
            have HBL6 := Lib.hid (fr_below HBL5.out hF6 hs1 HRO.out)
            clear hB6 hF6 HB5 HBL5
            go_wp2_with fail
            go_ret
            exact ⟨by simp, HBL6.out⟩
  · have HA2 : ∀ w1, Below w.heap.size w w1 → Calls Tryd.prog 6 #[] w1 fun e w' => e = .returned (.bool true) ∧ Below w1.heap.size w1 w' := fun w1 h => awake_calls w1 (HT.out.below h)
    have HA3 := Lib.hid HA2
    clear HA2
    have hng : ¬ (n : Int) ≤ 20 := by omega
    go_enter Tryd.func5, Tryd.ntmps5
    go_wp2_with fail
    refine HA.out.mono ?_
    rintro e w1 ⟨rfl, hb1⟩
    have HB1 := Lib.hid hb1
    have HA4 := Lib.hid (HA3.out w1 hb1)
    clear HA hb1 HA3
    go_wp2_with fail
    refine HA4.out.mono ?_
    rintro e w2 ⟨rfl, hb2⟩
    have HB2 := Lib.hid (HB1.out.trans (hb2.mono HB1.out.size))
    clear HA4 hb2 HB1
    go_wp2_with fail
    go_ret
    exact ⟨rfl, HB2.out⟩
end Go.Proofs.YtefacagkjcmeeaaDoor
