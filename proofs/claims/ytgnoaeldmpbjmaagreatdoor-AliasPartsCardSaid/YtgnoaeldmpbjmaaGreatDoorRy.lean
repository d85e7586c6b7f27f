/- The document's table: an alias is taken by another one who may. -/
import Derived.Test.YtgnoaeldmpbjmaaGreatDoorRo
set_option linter.unusedVariables false
set_option linter.unusedSimpArgs false
namespace Go.Proofs.YtgnoaeldmpbjmaaGreatDoor
open Go.RowKit

set_option maxRecDepth 100000 in
set_option maxHeartbeats 4000000 in
theorem rdrop_may (w : World) (server : ByteArray) (most : Int) (s : Sl) (P : Nat → Prop) (l : List En) (k by_ : ByteArray) (i : Nat) (x : En) (hr : RowOf w P 105 3 s (rowsE l)) (hn : l.length ≤ 1000000) (hk : idxE l k = i) (hx : l[i]? = some x) (hb : (x.b.toList == by_.toList) = false) :
    Calls Tryz.prog 32 #[.agg (tCells server most s), .string k, .string by_, .bool true] w fun e w' => ∃ s' : Sl, e = .returned (.tuple #[.agg (tCells server most s'), erV none]) ∧ RowOf w' (fun g => w.heap.size ≤ g) 105 3 s' (rowsE (l.take i ++ l.drop (i + 1))) ∧ Below w.heap.size w w' := by
  have HA := Lib.hid (fun W h => rat_calls W server most s P l k (hr.same (Below.size (B := w.heap.size) h) (fun g hg _ => Below.block h g hg)) hn)
  have HR := Lib.hid hr
  have HN := Lib.hid hn
  have hnl : s.n = l.length := by have := hr.1; simpa using this
  obtain ⟨A, n, c⟩ := s
  dsimp only at hnl
  subst hnl
  have hil : i < l.length := (List.getElem?_eq_some_iff.1 hx).1
  obtain ⟨r, ha⟩ : ∃ r, A = some ⟨r, 0, none⟩ := by
    rcases hr.2.2 with ⟨_, hnil⟩ | ⟨r, h1, _⟩
    · have := congrArg List.length hnil; simp at this; subst this; simp at hil
    · exact ⟨r, h1⟩
  subst ha
  obtain ⟨_, hrl, hrw⟩ := hr.at rfl
  have hcap : l.length ≤ c := by
    obtain ⟨cur, _, _, h3, _⟩ := hrw
    simpa using h3
  have HRW := Lib.hid hrw
  have HL := Lib.hid (laid3_made w server most (some ⟨r, 0, none⟩) l.length c)
  have HX := Lib.hid hx
  obtain ⟨i0, hi0, hz0, hz1, hz2⟩ := info_parts infoN
  have HI := Lib.hid hi0
  have HZ0 := Lib.hid hz0
  have HZ1 := Lib.hid hz1
  have HZ2 := Lib.hid hz2
  clear hi0 hz0 hz1 hz2
  rw [hk] at HA
  clear hr hn hk hrw
  simp only [tCells, Sl.val] at *
  go_enter Tryz.func32, Tryz.ntmps32
  go_wp2_with fail
  refine (HA.out _ HL.out.b).mono ?_
  rintro e w1 ⟨rfl, hb⟩
  have hl1 : Laid3 w server most (some ⟨r, 0, none⟩) l.length c w1 := HL.out.next hb
  have t0 := cell_at (j := 0) hl1.t rfl
  have t1 := cell_at (j := 1) hl1.t rfl
  have t2 := cell_at (j := 2) hl1.t rfl
  have r0 := cell_at (j := 0) hl1.r rfl
  have r1 := cell_at (j := 1) hl1.r rfl
  have r2 := cell_at (j := 2) hl1.r rfl
  have e0 := cell_at (j := 0) hl1.e rfl
  have e1 := cell_at (j := 1) hl1.e rfl
  have e2 := cell_at (j := 2) hl1.e rfl
  have rz : ∀ j, w1.frozen? ⟨w.heap.size + 1, j, none⟩ = false := fun j => frozen_at hl1.r
  have ez : ∀ j, w1.frozen? ⟨w.heap.size + 1 + 1, j, none⟩ = false := fun j => frozen_at hl1.e
  have tz : ∀ j, w1.frozen? ⟨w.heap.size, j, none⟩ = false := fun j => frozen_at hl1.t
  have c2 : w1.cell? ⟨r, i * 3 + 2, none⟩ = some (.string x.b) := (hl1.b.cell (p := ⟨r, i * 3 + 2, none⟩) hrl).trans (HRW.out.cell (c := x.cells.toList) (d := 2) (by simp [HX.out]) rfl)
  have HL1 := Lib.hid hl1
  clear hb hl1 HL HA hx
  go_wp2_with fail
  have b0 : (0 : Int) ≤ (i : Int) := by omega
  have b1 : (i : Int) ≤ (c : Int) := by omega
  have b2 : (0 : Int) ≤ (i : Int) + 1 := by omega
  have b3 : (i : Int) + 1 ≤ (l.length : Int) := by omega
  have b4 : (l.length : Int) ≤ (c : Int) := by omega
  have hnn := HN.out
  have bw : IntKind.i64.wrap ((i : Int) + 1) = (i : Int) + 1 := by rw [IntKind.wrap_i64]; omega
  have hw1 := blk_lt HL1.out.t
  have HO1 := Lib.hid (show ((w1.alloc (.cells #[] 105)).drew).ownsRow (w.heap.size + 1 + 1 + 1) 105 3 (.slice (some ⟨w1.heap.size, 0, none⟩) 0 0) 0 [] from ⟨rfl, .inr ⟨w1.heap.size, 0, #[], rfl, blk_lt HL1.out.e, heap_new_at w1 _ _ rfl, Nat.le_refl _, by decide, rfl, rfl⟩⟩)
  have HRW1 := Lib.hid (show Rw ((w1.alloc (.cells #[] 105)).drew) 105 r c 3 (rowsE l) from HRW.out.same ((heap_old_at w1 _ _ (by have := HL1.out.b.size; omega)).trans (HL1.out.b.block r hrl)))
  have HS1 := Lib.hid (show Src ((w1.alloc (.cells #[] 105)).drew) 3 (some ⟨r, 0, none⟩) i c ((rowsE l).take i) by
    have := HRW1.out.src (oneE l) (by omega) 0 i c (by simp; omega)
    simpa using this)
  have hb9 := blk_lt HL1.out.e
  have hS0 : ((w1.alloc (.cells #[] 105)).drew).cell? ⟨w.heap.size, 2, none⟩ = some (.slice (some ⟨r, 0, none⟩) l.length c) := (cell_old w1 _ _ hw1).trans t2
  have hS1 : ((w1.alloc (.cells #[] 105)).drew).frozen? ⟨w.heap.size, 2, none⟩ = false := (World.frozen?_alloc_old w1 _ ⟨w.heap.size, 2, none⟩ (by show w.heap.size ≠ w1.heap.size; omega)).trans (tz 2)
  have hz2 : ∀ j, w1.frozen? ⟨w.heap.size, j, none⟩ = false := fun j => frozen_at HL1.out.t
  go_cut [] (fun wx => ∃ s' : Sl, Laid3 w server most s'.a s'.n s'.c wx ∧ RowOf wx (fun g => w.heap.size + 1 + 1 < g) 105 3 s' (rowsE (l.take i ++ l.drop (i + 1))))
  case first =>
    go_region_law
      (first
        | (refine step_append_src _ (by rfl) _ _ _ (by rfl) (w.heap.size + 1 + 1 + 1) 105 i0 _ 3 48 Tryz.underlying32 HI.out HZ0.out HZ1.out HZ2.out rfl (by omega) _ 0 [] (by rfl) HO1.out _ i c ((rowsE l).take i) (by rfl) HS1.out (by clear bw; unfold maxLen; omega) (by clear bw; omega) (by have := blk_lt HL1.out.e; simp; omega) ?_; intro a1 cap1 w2 hown1 hgrow hat1
           simp only [Nat.zero_add, List.nil_append] at hown1 hat1 ⊢
           have hob9 : ∀ j, (Value.slice a1 i cap1).ownBlock = some j → w.heap.size + 1 + 1 < j := by
             intro j hj
             rcases hat1 with h | h
             · rw [h] at hj; simp only [Value.ownBlock] at hj; injection hj with hj; omega
             · rw [h] at hj; injection hj with hj; rw [← hj]; simp; omega
           have hob : (Value.slice a1 i cap1).ownBlock ≠ some w.heap.size := fun e => by have := hob9 _ e; omega
           have hw2 : w1.heap.size < w2.heap.size := by have := hgrow.size; simp at this; omega
           have hc2 := (hgrow.cell_far ⟨w.heap.size, 2, none⟩ (by clear bw; simp; omega) (by clear bw; simp only [Value.ownBlock]; intro he; injection he with he; omega)).trans hS0
           have hf2 := (hgrow.frozen_far ⟨w.heap.size, 2, none⟩ (by clear bw; simp; omega) (by clear bw; simp only [Value.ownBlock]; intro he; injection he with he; omega)).trans hS1
           have hrw2 : Rw w2 105 r c 3 (rowsE l) := HRW1.out.same (hgrow.block _ (by simp; omega) (by simp only [Value.ownBlock]; intro he; injection he with he; omega)))
        | (refine step_append_src _ (by rfl) _ _ _ (by rfl) (w.heap.size + 1 + 1 + 1) 105 i0 _ 3 48 Tryz.underlying32 HI.out HZ0.out HZ1.out HZ2.out rfl (by omega) _ _ _ (by rfl) hown1 _ _ _ ((rowsE l).drop (i + 1)) (by rfl) (src_rest hrw2 (i + 1) (by omega)) (by clear bw; unfold maxLen; omega) (by clear bw; omega) (by clear bw; omega) ?_; intro a2 cap2 w3 hown2 hgrow2 hat2
           have hc3 := (hgrow2.cell_far ⟨w.heap.size, 2, none⟩ (by clear bw; show w.heap.size < w2.heap.size; omega) (by intro he; exact hob he.symm)).trans hc2
           have hf3 := (hgrow2.frozen_far ⟨w.heap.size, 2, none⟩ (by clear bw; show w.heap.size < w2.heap.size; omega) (by intro he; exact hob he.symm)).trans hf2))
    all_goals
      have hl3 := (((HL1.out.alloc3 (.cells #[] 105)).drew.grown hgrow (fun j hj => by simp only [Value.ownBlock] at hj; injection hj with hj; omega)).grown hgrow2 hob9).put a2 (i + (l.length - (i + 1))) cap2
      obtain ⟨s', hs', hro⟩ := RowOf.of_own (l := rowsE (l.take i ++ l.drop (i + 1))) (by rw [flat_two]; exact hown2) (fun y hy => by obtain ⟨z, _, rfl⟩ := List.mem_map.1 hy; rfl) (by decide) (by simp; omega)
      obtain ⟨sa, sn, sc⟩ := s'
      simp only [Sl.val] at hs'
      injection hs' with hs1 hs2 hs3
      subst hs1 hs2 hs3
      have HL3 := Lib.hid hl3
      have HRO := Lib.hid hro
      clear hl3 hro
      generalize (if c = i + 1 then some (⟨r, 0, none⟩ : Addr) else some ⟨r, (i + 1) * 3, none⟩) = aw
      go_wp2_with fail
      go_meet
      exact ⟨⟨a2, _, cap2⟩, HL3.out, (HRO.out.same (by simp [World.setCell]) (fun g hg hP => Below.heap_setCell _ _ _ _ (by show g ≠ w.heap.size; omega))).mono (fun g _ h => by omega)⟩
  case rest =>
    clear t0 t1 t2 r0 r1 r2 e0 e1 e2 rz ez tz c2 HO1 HRW1 HS1 hS0 hS1 hz2
    obtain ⟨⟨sa, sn, sc⟩, hl, hro⟩ := hcut
    have t0 := cell_at (j := 0) hl.t rfl
    have t1 := cell_at (j := 1) hl.t rfl
    have t2 := cell_at (j := 2) hl.t rfl
    have r0 := cell_at (j := 0) hl.r rfl
    have r1 := cell_at (j := 1) hl.r rfl
    have r2 := cell_at (j := 2) hl.r rfl
    have e0 := cell_at (j := 0) hl.e rfl
    have e1 := cell_at (j := 1) hl.e rfl
    have e2 := cell_at (j := 2) hl.e rfl
    have rz : ∀ j, wc.frozen? ⟨w.heap.size + 1, j, none⟩ = false := fun j => frozen_at hl.r
    have ez : ∀ j, wc.frozen? ⟨w.heap.size + 1 + 1, j, none⟩ = false := fun j => frozen_at hl.e
    have tz : ∀ j, wc.frozen? ⟨w.heap.size, j, none⟩ = false := fun j => frozen_at hl.t
    have HL4 := Lib.hid hl
    have HRO := Lib.hid hro
    clear hl hro
    go_wp2_with fail
    go_region_law (go_simp; go_at_call 31; refine (rnone_calls _).mono ?_; rintro e wv ⟨rfl, hb⟩
                   have hl : Laid3 w server most sa sn sc wv := by first | exact HL4.out.drew.next hb | exact HL4.out.next hb
                   have hrv : RowOf wv (fun g => w.heap.size + 1 + 1 < g) 105 3 ⟨sa, sn, sc⟩ (rowsE (l.take i ++ l.drop (i + 1))) := HRO.out.same hb.size (fun g hg _ => hb.block g hg)
                   have t0 := cell_at (j := 0) hl.t rfl
                   have t1 := cell_at (j := 1) hl.t rfl
                   have t2 := cell_at (j := 2) hl.t rfl
                   have r0 := cell_at (j := 0) hl.r rfl
                   have r1 := cell_at (j := 1) hl.r rfl
                   have r2 := cell_at (j := 2) hl.r rfl
                   have e0 := cell_at (j := 0) hl.e rfl
                   have e1 := cell_at (j := 1) hl.e rfl
                   have e2 := cell_at (j := 2) hl.e rfl
                   have rz : ∀ j, wv.frozen? ⟨w.heap.size + 1, j, none⟩ = false := fun j => frozen_at hl.r
                   have ez : ∀ j, wv.frozen? ⟨w.heap.size + 1 + 1, j, none⟩ = false := fun j => frozen_at hl.e
                   have tz : ∀ j, wv.frozen? ⟨w.heap.size, j, none⟩ = false := fun j => frozen_at hl.t
                   have HLV := Lib.hid hl
                   have HRV := Lib.hid hrv
                   clear hl hb hrv
                   simp only [erV, eCells])
    all_goals (go_wp2_with fail)
    all_goals first
    | (refine bodyPost_ret (res_TE rfl _ _ (w.heap.size + 1) (w.heap.size + 1 + 1) #[.string server, .int .i64 most, .slice sa sn sc] #[.int .i64 0, .int .i64 (-1), .string ⟨#[]⟩] rfl (HLV.out.fin _ _ _ _ _ _).1 rfl rfl (HLV.out.fin _ _ _ _ _ _).2.1 rfl) rfl ?_
       exact ⟨⟨sa, sn, sc⟩, rfl, (HRV.out.same (by simp [World.setCell]) (fun g hg hP => (row3_other (by omega)).trans (row3_other (by omega)))).mono (fun g _ h => by omega), (HLV.out.fin _ _ _ _ _ _).2.2⟩)
    | (refine bodyPost_ret (res_TE rfl _ _ (w.heap.size + 1) (w.heap.size + 1 + 1) #[.string server, .int .i64 most, .slice sa sn sc] #[.int .i64 0, .int .i64 (-1), .string ⟨#[]⟩] rfl (HLV.out.fin' _ _ _ _ _ _).1 rfl rfl (HLV.out.fin' _ _ _ _ _ _).2.1 rfl) rfl ?_
       exact ⟨⟨sa, sn, sc⟩, rfl, (HRV.out.same (by simp [World.setCell]) (fun g hg hP => (row3_other (by omega)).trans (row3_other (by omega)))).mono (fun g _ h => by omega), (HLV.out.fin' _ _ _ _ _ _).2.2⟩)
end Go.Proofs.YtgnoaeldmpbjmaaGreatDoor
