/- The document's table: a room's aliases; whether acts are few. -/
import Derived.Test.YtgnoaeldmpbjmaaGreatDoorRo
set_option linter.unusedVariables false
set_option linter.unusedSimpArgs false
namespace Go.Proofs.YtgnoaeldmpbjmaaGreatDoor
open Go.RowKit

set_option maxRecDepth 100000 in
set_option maxHeartbeats 1600000 in
theorem rof_calls (w : World) (server : ByteArray) (most : Int) (s : Sl) (P : Nat → Prop) (l : List En) (room : ByteArray) (hr : RowOf w P 105 3 s (rowsE l)) (hn : l.length ≤ 1000000) :
    Calls Tryz.prog 43 #[.agg (tCells server most s), .string room] w fun e w' => ∃ s' : Sl, e = .returned s'.val ∧ RowOf w' (fun g => w.heap.size ≤ g) 9 1 s' (srows (ofRoom room l)) ∧ Below w.heap.size w w' := by
  have HR := Lib.hid hr
  have HN := Lib.hid hn
  have hll := hn
  obtain ⟨i0, hi, hz0, hz1, hz2⟩ := info_parts infoStr
  have HI := Lib.hid hi
  have HZ0 := Lib.hid hz0
  have HZ1 := Lib.hid hz1
  have HZ2 := Lib.hid hz2
  have hnl : s.n = l.length := by have := hr.1; simpa using this
  obtain ⟨A, n, c⟩ := s
  dsimp only at hnl
  subst hnl
  have hT : (w.alloc (.cells (tCells server most ⟨A, l.length, c⟩) 34)).heap[w.heap.size]? = some (.cells #[.string server, .int .i64 most, .slice A l.length c] 34 (0, 0)) := heap_new_at w _ _ rfl
  have hb0 : Below w.heap.size w (w.alloc (.cells (tCells server most ⟨A, l.length, c⟩) 34)) := (Below.refl _ _).alloc (Nat.le_refl _) _
  have HT := Lib.hid hT
  have HB0 := Lib.hid hb0
  have hsz0 : (w.alloc (.cells (tCells server most ⟨A, l.length, c⟩) 34)).heap.size = w.heap.size + 1 := World.size_alloc _ _
  have HSZ0 := Lib.hid hsz0
  clear hr hn hi hz0 hz1 hz2 hT hb0 hsz0
  simp only [tCells, Sl.val] at *
  go_enter Tryz.func43, Tryz.ntmps43
  go_wp2_with fail
  generalize hw1 : w.alloc (.cells #[.string server, .int .i64 most, .slice A l.length c] 34) = w1 at *
  have HW1 := Lib.hid hw1
  clear hw1
  go_loopw [5, 10] (fun c5 i wr => ∃ k : Nat, k ≤ l.length ∧ i = .int .i64 k ∧ wr.ownsRow w1.heap.size 9 1 c5 (ofRoom room (l.take k)).length (srows (ofRoom room (l.take k))).flatten ∧ Below w1.heap.size w1 wr) (fun _ i _ => l.length - (intOf i).toNat)
  case atStart => exact ⟨0, by omega, rfl, ⟨rfl, .inl ⟨rfl, rfl⟩⟩, Below.refl _ _⟩
  case round =>
    obtain ⟨k, hk, rfl, hown, hb⟩ := hrel
    have HOWN := Lib.hid hown
    have HB1 := Lib.hid hb
    have hbs := hb.size
    have hTr := (hb.block _ (blk_lt HT.out)).trans HT.out
    have t2 : wr.cell? ⟨w.heap.size, 2, none⟩ = some (.slice A l.length c) := cell_at hTr rfl
    clear hTr
    by_cases hlt : k < l.length
    · have hy : l[k]? = some l[k] := List.getElem?_eq_getElem hlt
      have hts : l.take (k + 1) = l.take k ++ [l[k]] := by rw [List.take_succ_eq_append_getElem hlt]
      generalize l[k] = y at hy hts
      have hrow := HR.out.same (w' := wr) (Nat.le_trans HB0.out.size hbs) (fun i hi _ => (hb.block i (Nat.lt_of_lt_of_le hi HB0.out.size)).trans (HB0.out.block i hi))
      obtain ⟨r, ha⟩ : ∃ r, A = some ⟨r, 0, none⟩ := by
        rcases hrow.2.2 with ⟨_, hnil⟩ | ⟨r, h1, _⟩
        · have := congrArg List.length hnil; simp at this; subst this; simp at hlt
        · exact ⟨r, h1⟩
      obtain ⟨_, hrl, hrw⟩ := hrow.at ha
      have hyc : (rowsE l)[k]? = some y.cells.toList := by simp [hy]
      have c0 : wr.cell? ⟨r, k * 3, none⟩ = some (.string y.a) := hrw.cell (d := 0) hyc rfl
      have c1 : wr.cell? ⟨r, k * 3 + 1, none⟩ = some (.string y.r) := hrw.cell (d := 1) hyc rfl
      have HTS := Lib.hid hts
      have hlen : (ofRoom room (l.take k)).length ≤ k := by
        unfold ofRoom
        rw [List.length_map]
        exact Nat.le_trans (List.length_filter_le _ _) (by simp; omega)
      subst ha
      clear hy hts hrow hrw hyc hown hb
      cases hsame : (y.r.toList == room.toList) with
      | false =>
        have HF := Lib.hid (show ofRoom room (l.take (k + 1)) = ofRoom room (l.take k) by rw [HTS.out]; simp [ofRoom, sameB, hsame])
        go_wp2_with fail
        refine ⟨⟨k + 1, by omega, by go_num, by rw [HF.out]; exact HOWN.out, HB1.out⟩, by simp [intOf]; omega⟩
      | true =>
        have HF := Lib.hid (show ofRoom room (l.take (k + 1)) = ofRoom room (l.take k) ++ [y.a] by rw [HTS.out]; simp [ofRoom, sameB, hsame])
        go_wp2_with (at_builtin; refine wpList_append_own _ rfl _ _ 62 rfl w1.heap.size 9 i0 _ 1 16 Tryz.underlying62 HI.out HZ0.out HZ1.out HZ2.out rfl (by decide) _ (ofRoom room (l.take k)).length (srows (ofRoom room (l.take k))).flatten rfl (HOWN.out.alloc _) ⟨wr.heap.size, 0, none⟩ 1 1 [.string y.a] rfl rfl ?c1 ?c2 ?c3 ?c4 ?c5 ?_)
        case c1 =>
          intro j u hj
          exact World.news_of_block (B := wr.heap.size) (cs := #[.string y.a]) (t := 9) (fr := (0, 0)) (heap_new_at _ _ _ rfl) j u hj
        case c2 => intro u hu; simp at hu; subst hu; rfl
        case c3 => unfold maxLen; omega
        case c4 => omega
        case c5 => simp; omega
        intro v' w4 hown4 hg4 _
        have HOWN4 := Lib.hid hown4
        have HB4 := Lib.hid ((HB1.out.alloc HB1.out.size (.cells #[.string y.a] 9)).grown hg4 (by simp; omega) (fun j hj => (HOWN.out.lt j hj).1))
        clear hown4 hg4
        go_wp2_with fail
        refine ⟨⟨k + 1, by omega, by go_num, ?_, HB4.out⟩, by simp [intOf]; omega⟩
        rw [HF.out]
        simpa using HOWN4.out
    · obtain rfl : k = l.length := by omega
      rw [List.take_length] at hown
      obtain ⟨s', rfl, hr'⟩ := RowOf.of_own (l := srows (ofRoom room l)) hown (fun c hc => by obtain ⟨x, _, rfl⟩ := List.mem_map.1 hc; rfl) (by decide) (by
        simp only [List.length_map]
        unfold ofRoom
        rw [List.length_map]
        exact Nat.le_trans (List.length_filter_le _ _) hll)
      have HR' := Lib.hid hr'
      clear hown hr' hb HOWN
      go_wp2_with fail
      go_ret
      exact ⟨s', rfl, HR'.out.mono (fun i _ h => Nat.le_trans HB0.out.size h), HB0.out.trans (HB1.out.mono HB0.out.size)⟩
end Go.Proofs.YtgnoaeldmpbjmaaGreatDoor
