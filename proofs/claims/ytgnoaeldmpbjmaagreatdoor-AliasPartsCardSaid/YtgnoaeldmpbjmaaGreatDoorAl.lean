/- alias: all of a table, by aliases; a room's. -/
import Derived.Test.YtgnoaeldmpbjmaaGreatDoorPe
import Derived.Test.YtgnoaeldmpbjmaaGreatDoorTa
import Derived.Test.YtgnoaeldmpbjmaaGreatDoorSl
set_option linter.unusedVariables false
namespace Go.Proofs.YtgnoaeldmpbjmaaGreatDoor
open Go.RowKit Go.Maps Go.Sort Go.Shelf

abbrev seqE (Bm : Nat) : Value := .func (.func 72) #[] #[.pointer (some ⟨Bm, 0, none⟩)]
theorem values_calls (w : World) (b : Nat) : Calls Tryz.prog 45 #[.map (some b)] w fun e w' => e = .returned (seqE w.heap.size) ∧ w' = w.alloc (.cells #[.map (some b)] 78) :=
  callsIn_wide.1 (values_in Fence.wide 6 trivial rfl (some b) w)
/-- slices.Collect. -/
theorem collect_calls (w : World) (Bm b : Nat) (l : List En) (hl : RiseE l) (hn : l.length ≤ 1000000) (hBm : Bm < w.heap.size) (hm : w.cell? ⟨Bm, 0, none⟩ = some (.map (some b))) (hmp : MapS w Tryz.prog 9 b (ents l)) :
    Calls Tryz.prog 70 #[seqE Bm] w fun e w' => ∃ (s : Sl) (xs : List En), e = .returned s.val ∧ xs.Perm l ∧ RowOf w' (fun g => w.heap.size ≤ g) 49 3 s (rowsE xs) ∧ Below w.heap.size w w' := by
  have HA := Lib.hid (callsIn_wide.1 (appendSeq_in Fence.wide 6 trivial trivial rfl (by omega) Bm b _ _ w hBm hm (ownsE hmp) (by rw [MD_size, ents_length]; exact hn)))
  have HL := Lib.hid hl
  have HN := Lib.hid hn
  clear hl hn hm hmp
  go_enter Tryz.func70, Tryz.ntmps70
  go_wp2_with fail
  refine HA.out.mono ?_
  rintro e w1 ⟨v, xs, ps, rfl, hps, hxs, hrow, hb⟩
  have hp := gathered HL.out hps
  rw [← hxs] at hp
  obtain ⟨s, rfl, hr⟩ := RowOf.of_own (l := rowsE xs) hrow (fun c hc => by obtain ⟨x, _, rfl⟩ := List.mem_map.1 hc; rfl) (by decide) (by simp only [List.length_map]; rw [hp.length_eq]; exact HN.out)
  have HP := Lib.hid hp
  have HR := Lib.hid hr
  have HB := Lib.hid hb
  clear hps hxs hrow hp hr hb HA
  go_wp2_with fail
  go_ret
  exact ⟨s, xs, rfl, HP.out, HR.out, HB.out⟩
/-- slices.SortedFunc. -/
theorem sortedFunc_calls (w : World) (Bm b : Nat) (l : List En) (hl : RiseE l) (hn : l.length ≤ 1000000) (hBm : Bm < w.heap.size) (hm : w.cell? ⟨Bm, 0, none⟩ = some (.map (some b))) (hmp : MapS w Tryz.prog 9 b (ents l)) :
    Calls Tryz.prog 44 #[seqE Bm, .func (.func 46) #[] #[]] w fun e w' => ∃ s : Sl, e = .returned s.val ∧ RowOf w' (fun g => w.heap.size ≤ g) 49 3 s (rowsE l) ∧ Below w.heap.size w w' := by
  have HA := Lib.hid (collect_calls w Bm b l hl hn hBm hm hmp)
  have HL := Lib.hid hl
  have HN := Lib.hid hn
  clear hl hn hm hmp
  go_enter Tryz.func44, Tryz.ntmps44
  go_wp2_with fail
  refine HA.out.mono ?_
  rintro e w1 ⟨s, xs, rfl, hp, hr, hb⟩
  have HP := Lib.hid hp
  have HR := Lib.hid hr
  have HB := Lib.hid hb
  have hxl : xs.length ≤ 1000000 := by rw [hp.length_eq]; exact HN.out
  clear hp hr hb HA
  obtain ⟨A, n, c⟩ := s
  simp only [Sl.val]
  rcases HR.out.2.2 with ⟨hs, hnil⟩ | ⟨r, ha, hcap, hP, hlt, hrw⟩
  · injection hs with hs1 hs2 hs3
    subst hs1 hs2 hs3
    have hx0 : xs = [] := by simpa using hnil
    subst hx0
    have hl0 : l = [] := List.nil_perm.1 HP.out
    have HL0 := Lib.hid hl0
    clear hnil hl0 hxl
    go_wp2_with fail
    refine (sortE_none w1 none 0 _).mono ?_
    rintro e w2 ⟨rfl, rfl⟩
    go_wp2_with fail
    go_ret
    exact ⟨⟨none, 0, 0⟩, rfl, by rw [HL0.out]; exact HR.out, HB.out⟩
  · have hn' : n = xs.length := by have := HR.out.1; simpa using this
    dsimp only at ha
    subst ha hn'
    have HS := Lib.hid (sortE_calls w1 r c xs hxl hrw)
    have HPr := Lib.hid hP
    have HCAP := Lib.hid hcap
    clear hrw hP hcap hxl
    go_wp2_with fail
    refine HS.out.mono ?_
    rintro e w2 ⟨rfl, l', hp', hs', hrw', hg'⟩
    have hll : l' = l := sorted_is HL.out (hp'.trans HP.out) hs'
    subst hll
    have HRW := Lib.hid hrw'
    have HG := Lib.hid hg'
    have HPL := Lib.hid hp'
    clear hs' hp' hrw' hg' HS
    go_wp2_with fail
    go_ret
    refine ⟨⟨some ⟨r, 0, none⟩, xs.length, c⟩, rfl, ⟨?_, ?_, .inr ⟨r, rfl, HCAP.out, HPr.out, HRW.out.lt, HRW.out⟩⟩, ?_⟩
    · simp only [List.length_map]; exact HPL.out.length_eq.symm
    · simp only [List.length_map]; exact HN.out
    · exact HB.out.grown HG.out HB.out.size (fun j hj => by cases hj; exact HPr.out)
theorem allE_calls (w : World) (g b : Nat) (server : ByteArray) (most : Int) (l : List En) (ht : Tab w g b server most l) (hl : RiseE l) (hn : l.length ≤ 1000000) :
    Calls Tryz.prog 21 #[.pointer (some ⟨g, 0, none⟩)] w fun e w' => ∃ s : Sl, e = .returned s.val ∧ RowOf w' (fun g => w.heap.size ≤ g) 49 3 s (rowsE l) ∧ Below w.heap.size w w' := by
  have hg := blk_lt ht.blk
  have k2 := cell_at (j := 2) ht.blk rfl
  have hb1 : Below w.heap.size w (w.alloc (.cells #[.map (some b)] 78)) := (Below.refl _ _).alloc (Nat.le_refl _) _
  have HS := Lib.hid (sortedFunc_calls (w.alloc (.cells #[.map (some b)] 78)) w.heap.size b l hl hn (by simp) (cell_new _ _ _ _ _ _ rfl) (ht.mp.same (heap_old_at _ _ _ ht.mp.lt)))
  have HB1 := Lib.hid hb1
  clear ht hl hn hb1
  go_enter Tryz.func21, Tryz.ntmps21
  go_wp2_with fail
  refine (values_calls w b).mono ?_
  rintro e w1 ⟨rfl, rfl⟩
  go_wp2_with fail
  refine HS.out.mono ?_
  rintro e w2 ⟨s, rfl, hr, hb⟩
  have HR := Lib.hid hr
  have HB := Lib.hid (HB1.out.trans (hb.mono HB1.out.size))
  clear hr hb HS
  go_wp2_with fail
  go_ret
  exact ⟨s, rfl, HR.out.mono (fun i _ h => by simp at h; omega), HB.out⟩

theorem infoStr : (Tryz.prog.info? 9).map (fun i => (i.zero, i.size, i.bytes)) = some (some (.string ⟨#[]⟩), 1, 16) := by kernel_rfl
abbrev srows (l : List ByteArray) : List (List Value) := l.map fun x => [.string x]
def ofRoom (room : ByteArray) (l : List En) : List ByteArray := (l.filter fun x => sameB x.r room).map (·.a)
set_option maxRecDepth 100000 in
set_option maxHeartbeats 1600000 in
theorem ofE_calls (w : World) (g b : Nat) (server : ByteArray) (most : Int) (l : List En) (room : ByteArray) (ht : Tab w g b server most l) (hl : RiseE l) (hn : l.length ≤ 1000000) :
    Calls Tryz.prog 22 #[.pointer (some ⟨g, 0, none⟩), .string room] w fun e w' => ∃ s : Sl, e = .returned s.val ∧ RowOf w' (fun g => w.heap.size ≤ g) 9 1 s (srows (ofRoom room l)) ∧ Below w.heap.size w w' := by
  have HS := Lib.hid (allE_calls w g b server most l ht hl hn)
  have HN := Lib.hid hn
  obtain ⟨i0, hi, hz0, hz1, hz2⟩ := info_parts infoStr
  have HI := Lib.hid hi
  have HZ0 := Lib.hid hz0
  have HZ1 := Lib.hid hz1
  have HZ2 := Lib.hid hz2
  clear ht hl hn hi hz0 hz1 hz2
  go_enter Tryz.func22, Tryz.ntmps22
  go_wp2_with fail
  refine HS.out.mono ?_
  rintro e w1 ⟨s, rfl, hr, hb⟩
  have HR := Lib.hid hr
  have HB := Lib.hid hb
  have hnl : s.n = l.length := by have := hr.1; simpa using this
  obtain ⟨A, n, c⟩ := s
  dsimp only at hnl
  subst hnl
  clear hr hb HS
  simp only [Sl.val]
  have hll := HN.out
  go_wp2_with fail
  go_loopw [5, 11] (fun c5 i wr => ∃ k : Nat, k ≤ l.length ∧ i = .int .i64 k ∧ wr.ownsRow w1.heap.size 9 1 c5 (ofRoom room (l.take k)).length (srows (ofRoom room (l.take k))).flatten ∧ Below w1.heap.size w1 wr) (fun _ i _ => l.length - (intOf i).toNat)
  case atStart => exact ⟨0, by omega, rfl, ⟨rfl, .inl ⟨rfl, rfl⟩⟩, Below.refl _ _⟩
  case round =>
    obtain ⟨k, hk, rfl, hown, hb⟩ := hrel
    have HOWN := Lib.hid hown
    have HB1 := Lib.hid hb
    have hbs := hb.size
    by_cases hlt : k < l.length
    · have hy : l[k]? = some l[k] := List.getElem?_eq_getElem hlt
      have hts : l.take (k + 1) = l.take k ++ [l[k]] := by rw [List.take_succ_eq_append_getElem hlt]
      generalize l[k] = y at hy hts
      have hrow := HR.out.same hb.size (fun i hi _ => hb.block i hi)
      obtain ⟨r, ha⟩ : ∃ r, A = some ⟨r, 0, none⟩ := by
        rcases hrow.2.2 with ⟨_, hnil⟩ | ⟨r, h1, _⟩
        · have := congrArg List.length hnil; simp at this; subst this; simp at hlt
        · exact ⟨r, h1⟩
      obtain ⟨_, hrl, hrw⟩ := hrow.at ha
      have hyc : (rowsE l)[k]? = some y.cells.toList := by simp [hy]
      have c0 : wr.cell? ⟨r, k * 3, none⟩ = some (.string y.a) := hrw.cell (d := 0) hyc rfl
      have c1 : wr.cell? ⟨r, k * 3 + 1, none⟩ = some (.string y.r) := hrw.cell (d := 1) hyc rfl
      have c2 : wr.cell? ⟨r, k * 3 + 2, none⟩ = some (.string y.b) := hrw.cell (d := 2) hyc rfl
      have HTS := Lib.hid hts
      have hlen : (ofRoom room (l.take k)).length ≤ k := by
        unfold ofRoom
        rw [List.length_map]
        exact Nat.le_trans (List.length_filter_le _ _) (by simp; omega)
      subst ha
      clear hy hts hrow hrw hyc hown hb
      cases hsame : (y.r.toList == room.toList) with
      | false =>
        have HF := Lib.hid (show ofRoom room (l.take (k + 1)) = ofRoom room (l.take k) by rw [HTS.out]; simp [ofRoom, sameB, hsame])
        go_wp2_with fail
        refine ⟨⟨k + 1, by omega, by go_num, by rw [HF.out]; exact HOWN.out.alloc _, HB1.out.alloc HB1.out.size _⟩, by simp [intOf]; omega⟩
      | true =>
        have HF := Lib.hid (show ofRoom room (l.take (k + 1)) = ofRoom room (l.take k) ++ [y.a] by rw [HTS.out]; simp [ofRoom, sameB, hsame])
        go_wp2_with (at_builtin; refine wpList_append_own _ rfl _ _ 62 rfl w1.heap.size 9 i0 _ 1 16 Tryz.underlying62 HI.out HZ0.out HZ1.out HZ2.out rfl (by decide) _ (ofRoom room (l.take k)).length (srows (ofRoom room (l.take k))).flatten rfl ((HOWN.out.alloc _).alloc _) ⟨wr.heap.size + 1, 0, none⟩ 1 1 [.string y.a] rfl rfl ?c1 ?c2 ?c3 ?c4 ?c5 ?_)
        case c1 =>
          intro j u hj
          exact World.news_of_block (B := wr.heap.size + 1) (cs := #[.string y.a]) (t := 9) (fr := (0, 0)) (heap_new_at _ _ _ (by simp)) j u hj
        case c2 => intro u hu; simp at hu; subst hu; rfl
        case c3 => unfold maxLen; omega
        case c4 => omega
        case c5 => simp; omega
        intro v' w4 hown4 hg4 _
        have HOWN4 := Lib.hid hown4
        have HB4 := Lib.hid (((HB1.out.alloc HB1.out.size (.cells #[.string y.a, .string y.r, .string y.b] 49)).alloc (by simp; omega) (.cells #[.string y.a] 9)).grown hg4 (by simp; omega) (fun j hj => (HOWN.out.lt j hj).1))
        clear hown4 hg4
        go_wp2_with fail
        refine ⟨⟨k + 1, by omega, by go_num, ?_, HB4.out⟩, by simp [intOf]; omega⟩
        rw [HF.out]
        simpa using HOWN4.out
    · obtain rfl : k = l.length := by omega
      rw [List.take_length] at hown
      obtain ⟨s', rfl, hr'⟩ := RowOf.of_own (l := srows (ofRoom room l)) hown (fun c hc => by obtain ⟨x, _, rfl⟩ := List.mem_map.1 hc; rfl) (by decide) (by
        simp only [List.length_map]
        unfold ofRoom
        rw [List.length_map]
        exact Nat.le_trans (List.length_filter_le _ _) hll)
      have HR' := Lib.hid hr'
      clear hown hr' hb HOWN
      go_wp2_with fail
      go_ret
      exact ⟨s', rfl, HR'.out.mono (fun i _ h => Nat.le_trans HB.out.size h), HB.out.trans (HB1.out.mono HB.out.size)⟩
end Go.Proofs.YtgnoaeldmpbjmaaGreatDoor
