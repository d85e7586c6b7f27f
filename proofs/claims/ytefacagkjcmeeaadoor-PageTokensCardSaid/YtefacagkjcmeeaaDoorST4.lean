import Derived.Test.YtefacagkjcmeeaaDoorST3
import Derived.Deep.LoopGhost
import Derived.Deep.DeepCutAuto
import Derived.Deep.CutBlock
import Derived.Deep.RegionHeld3
namespace Go.Proofs.YtefacagkjcmeeaaDoor.S
open Go.RowKit

theorem put_close {w w3 w4 w5 : World} {g gg cap cap5 u : Nat} {A : Option Addr} {ro : Option Nat} {b2 : BK} {k : Kp} {o : Obj} (hgw : g < w.heap.size) (hrl : ∀ r, ro = some r → r < w.heap.size) (hsz : w.heap.size < w3.heap.size)
    (hB : Bk w3 g A cap ro b2) (hF : Fr (fun k => k = g ∨ ro = some k) w w3) (hbx : w3.heap[w.heap.size]? = some (.cells #[.int .u32 u] 31)) (hb4 : Below w3.heap.size w3 w4)
    (hnb : (Value.slice A b2.l.length cap).ownBlock = ro) (hgrow : (w4.alloc o).grownBy w5 (Value.slice A b2.l.length cap).ownBlock)
    (hown : w5.ownsRow 0 71 5 (.slice (some ⟨gg, 0, none⟩) (b2.l.length + 1) cap5) (b2.l.length + 1) (flat b2.l ++ flat [k])) (hat : (Value.slice A b2.l.length cap).ownBlock = some gg ∨ gg = w4.heap.size + 1)
    (hg5 : w5.heap[g]? = w3.heap[g]?) :
    ∃ A' cap' ro', Bk (w5.setCell ⟨g, 3, none⟩ (.slice (some ⟨gg, 0, none⟩) (b2.l.length + 1) cap5)) g A' cap' ro' { b2 with l := b2.l ++ [k] } ∧ (ro' = ro ∨ ∃ r, ro' = some r ∧ w.heap.size ≤ r) ∧
      Fr (fun k => k = g ∨ ro = some k) w (w5.setCell ⟨g, 3, none⟩ (.slice (some ⟨gg, 0, none⟩) (b2.l.length + 1) cap5)) ∧ (w5.setCell ⟨g, 3, none⟩ (.slice (some ⟨gg, 0, none⟩) (b2.l.length + 1) cap5)).heap[w.heap.size]? = some (.cells #[.int .u32 u] 31) := by
  rw [hnb] at hgrow hat
  have h4 := hb4.size
  have e : flat b2.l ++ flat [k] = flat (b2.l ++ [k]) := by simp [flat]
  rw [e] at hown
  obtain ⟨ho, hc⟩ := own_Bk hown (by simp)
  have hgg : gg ≠ g := by
    rcases hat with h | h
    · intro e; subst e; exact hB.2.2 h
    · omega
  have hF5 : Fr (fun k => k = g ∨ ro = some k) w w5 :=
    Fr.trans (Fr.trans hF (Fr.of_below hb4)) (Fr.trans (Fr.alloc w4 o) (Fr.of_grown hgrow (fun r hr => .inr hr)))
  refine ⟨some ⟨gg, 0, none⟩, cap5, some gg, ⟨?_, .inr ⟨gg, rfl, rfl, hc, ho.same (Below.heap_setCell _ _ _ _ hgg)⟩, fun e => hgg (by injection e)⟩, ?_, hF5.trans (Fr.setCell _ _ _ (.inl rfl)), ?_⟩
  · rw [setCell_heap_at (hg5.trans hB.1)]
    simp
  · rcases hat with h | h
    · exact .inl h.symm
    · exact .inr ⟨gg, rfl, by omega⟩
  · rw [Below.heap_setCell _ _ _ _ (by show w.heap.size ≠ g; omega)]
    refine (hgrow.block _ (by simp; omega) (fun e => by have := hrl _ e.symm; omega)).trans ?_
    exact (Below.heap_alloc _ _ _ (by omega)).trans ((hb4.block _ hsz).trans hbx)

set_option maxHeartbeats 1600000 in
set_option maxRecDepth 100000 in
theorem put_calls (w : World) (g : Nat) (A : Option Addr) (cap : Nat) (ro : Option Nat) (b : BK) (draw : Nat) (now : Int) (who what : ByteArray) (xv : ByteArray)
   (hl : b.l.length ≤ 20) (hm1 : 1 ≤ b.most) (h : Bk w g A cap ro b) (hd : draw < 4294967296) (htab : Tab w) (hg0 : g ≠ 0) (hr0 : ro ≠ some 0) :
   Calls Tryd.prog 12 #[.pointer (some ⟨g, 0, none⟩), .int .u32 draw, .int .i64 now, .string who, .string what, .string xv] w
     fun e w' => PutPost w g ro (b.shed now) draw who what (.string xv) rfl e w' (fun A' cap' ro' b' => Bk w' g A' cap' ro' b') := by
  have hbox : Bk (w.alloc (.cells #[.int .u32 draw] 31)) g A cap ro b := h.below (Below.alloc (Below.refl _ _) (Nat.le_refl _) _)
  have HC := Lib.hid (clear_book (w.alloc (.cells #[.int .u32 draw] 31)) g A cap ro b now (by omega) hbox)
  have hg := h.lt
  have hrl := h.2.1.lt
  have HN := Lib.hid h.2.2
  have HT := Lib.hid htab
  have HL := Lib.hid hl
  have HM := Lib.hid hm1
  have HRL := Lib.hid hrl
  have HD := Lib.hid hd
  clear h hbox htab hrl hl hm1 hd
  go_enter Tryd.func12, Tryd.ntmps12
  go_wp2_with fail
  refine HC.out.mono ?_
  rintro e w1 ⟨rfl, hB, hF⟩
  have hgl := hB.lt
  have hh := hB.1
  have k0 : w1.cell? ⟨g, 0, none⟩ = some (.int .i64 b.most) := by simp [World.cell?, hh]; rfl
  have k3 : w1.cell? ⟨g, 3, none⟩ = some (.slice A (b.clear now).l.length cap) := by simp [World.cell?, hh]
  have kz : ∀ o, w1.frozen? ⟨g, o, none⟩ = false := fun o => by simp [World.frozen?, hh]
  have hbx : w1.heap[w.heap.size]? = some (.cells #[.int .u32 draw] 31) := by
    exact (hF.block w.heap.size (by simp) (by rintro (e | e); omega; have := HRL.out _ e; omega)).trans (heap_alloc_new w _)
  have HBX := Lib.hid hbx
  have HB := Lib.hid hB
  have hF' : Fr (fun k => k = g ∨ ro = some k) w w1 := Fr.then_ (Fr.alloc w _) hF (fun _ _ h => h)
  have HF := Lib.hid hF'
  have hsz : w.heap.size < w1.heap.size := by have := hF.size; simp at this; omega
  clear hh hB hF hF' HC hbx
  go_wp2_with fail
  go_quiet (fail)
  go_upto_if 26 with fail
  go_cut [] (fun wx => Bk wx g A cap ro (b.shed now) ∧ wx.heap[w.heap.size]? = some (.cells #[.int .u32 draw] 31) ∧ w.heap.size < wx.heap.size ∧ Fr (fun k => k = g ∨ ro = some k) w wx)
  case first =>
    by_cases hfull : ((b.clear now).l.length : Int) = b.most
    · have HFU := Lib.hid hfull
      have hb : (((b.clear now).l.length : Int) == b.most) = true := beq_iff_eq.2 hfull
      have hb1 := HB.out
      obtain ⟨k0', t, hcl⟩ : ∃ k0' t, (b.clear now).l = k0' :: t := by
        cases hc : (b.clear now).l with
        | nil => rw [hc] at hfull; have := HM.out; simp at hfull; omega
        | cons k t => exact ⟨k, t, rfl⟩
      have hshed : b.shed now = { b.clear now with l := t } := by
        unfold BK.shed
        rw [if_pos (show ((b.clear now).l.length : Int) = (b.clear now).most from hfull), hcl]
        rfl
      obtain ⟨hh1, hs1, hn1⟩ := hb1
      rcases hs1 with ⟨_, hnil, _⟩ | ⟨r, rfl, rfl, hcap, hor⟩
      · rw [hnil] at hcl; cases hcl
      rw [hcl] at hh1 hor hb k3
      rw [hcl]
      have HDel := Lib.hid (delete_first (w1.drewN nq) r cap k0' t (hor.same rfl) hcap)
      have HH := Lib.hid hh1
      have HS := Lib.hid hshed
      have hl : (k0' :: t).length = t.length + 1 := rfl
      rw [hl] at k3 hb
      rw [hl]
      have HCL := Lib.hid hcl
      clear hfull hcl hshed hh1 hor hl hn1
      go_wp2_with fail
      refine HDel.out.mono ?_
      rintro e w2 ⟨rfl, ho2, hg2⟩
      have hh2 : w2.heap[g]? = _ := (hg2.block g hgl (fun e => HN.out e.symm)).trans HH.out
      have j3 : ∃ v, w2.cell? ⟨g, 3, none⟩ = some v := ⟨_, by simp [World.cell?, hh2]; rfl⟩
      obtain ⟨v3, j3⟩ := j3
      have jz : ∀ o, w2.frozen? ⟨g, o, none⟩ = false := fun o => by simp [World.frozen?, hh2]
      have hrg : r ≠ g := fun e => HN.out (by rw [e])
      have hbx2 : w2.heap[w.heap.size]? = some (.cells #[.int .u32 draw] 31) := (hg2.block w.heap.size hsz (fun e => by have := HRL.out r rfl; injection e with e; omega)).trans HBX.out
      have HH2 := Lib.hid hh2
      have HO2 := Lib.hid ho2
      have HBX2 := Lib.hid hbx2
      have hsz2 : w.heap.size < w2.heap.size := Nat.lt_of_lt_of_le hsz hg2.size
      have HF2 := Lib.hid (Fr.trans (Fr.trans HF.out (Fr.drewN _ nq)) (Fr.of_grown (S := fun k => k = g ∨ some r = some k) hg2 (fun _ h => .inr h)))
      clear hh2 ho2 hbx2 hg2 k0 k3 kz hsz HBX HB HF HDel HH hb
      go_wp2_with fail
      go_meet
      rw [HS.out]
      have hne : g ≠ w.heap.size := by omega
      refine ⟨⟨?_, .inr ⟨r, rfl, rfl, hcap, HO2.out.same (Below.heap_setCell _ _ _ _ hrg)⟩, HN.out⟩, ?_, by simpa [World.setCell] using hsz2, HF2.out.trans (Fr.setCell _ _ _ (.inl rfl))⟩
      · rw [setCell_heap_at HH2.out]; rfl
      · rw [Below.heap_setCell _ _ _ _ (Ne.symm hne)]; exact HBX2.out
    · have HFU := Lib.hid hfull
      have hb : (((b.clear now).l.length : Int) == b.most) = false := beq_eq_false_iff_ne.2 hfull
      clear hfull
      go_wp2_with fail
      go_meet
      have hs : b.shed now = b.clear now := if_neg HFU.out
      rw [hs]
      exact ⟨HB.out.same rfl (fun _ _ => rfl), HBX.out, hsz, Fr.trans HF.out (Fr.drewN _ _)⟩
  case rest =>
    obtain ⟨hB, hbx, hsz2, hF⟩ := hcut
    have HB2 := Lib.hid hB
    have HBX2 := Lib.hid hbx
    have HF2 := Lib.hid hF
    have hll : (b.shed now).l.length ≤ 20 := Nat.le_trans (shed_le b now) HL.out
    have HLL := Lib.hid hll
    clear hB hbx hF HB HBX HF k0 k3 kz hsz hll
    generalize hbb : b.shed now = b2 at *
    have HBB := Lib.hid hbb
    clear hbb HL HM
    have HTab := Lib.hid (HT.out.fr HF2.out (by rintro (e | e); exact hg0 e.symm; exact hr0 e))
    go_wp2_with fail
    go_loopg [] 61 (fun gk wr => ∃ j, gk + j = 61 ∧ Bk wr g A cap ro b2 ∧ wr.heap[w.heap.size]? = some (.cells #[.int .u32 (((draw + j) % 4294967296 : Nat) : Int)] 31) ∧ w.heap.size < wr.heap.size ∧ Fr (fun k => k = g ∨ ro = some k) w wr ∧ ∀ i, i < j → ∃ k ∈ b2.l, k.tok = tokOf ((draw + i) % 4294967296))
    case atStart => exact ⟨0, rfl, HB2.out, by rw [Nat.add_zero, Nat.mod_eq_of_lt HD.out]; exact HBX2.out, hsz2, HF2.out, fun i hi => absurd hi (by omega)⟩
    case round =>
      obtain ⟨j, hj, hB, hbx, hsz, hF, hall⟩ := hrel
      clear hsz2 HBX2 HF2 HB2 HTab
      obtain ⟨u, hu⟩ : ∃ u, u = (draw + j) % 4294967296 := ⟨_, rfl⟩
      rw [← hu] at hbx
      have hu32 : u < 4294967296 := by omega
      have htab : Tab wr := HT.out.fr hF (by rintro (e | e); exact hg0 e.symm; exact hr0 e)
      have HP := Lib.hid (put1_calls wr w.heap.size u hu32 (by simp [World.cell?, hbx]) htab)
      have HLJ := Lib.hid hj
      have HB := Lib.hid hB
      have HBX := Lib.hid hbx
      have HF := Lib.hid hF
      have HALL := Lib.hid hall
      have HU := Lib.hid hu
      clear hj hB hbx hF hall hu hu32 htab
      go_wp2_with fail
      refine HP.out.mono ?_
      rintro e w2 ⟨rfl, hb2⟩
      have HFind := Lib.hid (find_calls w2 g A cap ro b2 (tokOf u) (by have := HLL.out; omega) (HB.out.below hb2))
      have HBL := Lib.hid hb2
      clear HP hb2
      go_wp2_with fail
      refine HFind.out.mono ?_
      rintro e w3 ⟨rfl, hb3⟩
      have hb23 : Below wr.heap.size wr w3 := HBL.out.trans (hb3.mono HBL.out.size)
      have HB3 := Lib.hid (HB.out.below hb23)
      have hbx3 : w3.heap[w.heap.size]? = some (.cells #[.int .u32 u] 31) := (hb23.block _ hsz).trans HBX.out
      have hsz3 : w.heap.size < w3.heap.size := Nat.lt_of_lt_of_le hsz hb23.size
      have HF3 := Lib.hid (HF.out.trans (Fr.of_below hb23))
      clear HFind HBL hb3 hb23 HF HBX HB hsz
      rcases idxOf_cases (tokB (tokOf u)) b2.l with ⟨h1, h2⟩ | ⟨m, q, h1, h2, h3, h4, h5⟩
      · rw [h1]
        have HNO := Lib.hid h2
        have HBX3 := Lib.hid hbx3
        clear h1 h2 hbx3
        go_wp2_with fail
        have hb3 := HB3.out
        have hh3 := hb3.1
        have k2 : w3.cell? ⟨g, 2, none⟩ = some (.int .i64 b2.now) := by simp [World.cell?, hh3]
        have k3 : w3.cell? ⟨g, 3, none⟩ = some (.slice A b2.l.length cap) := by simp [World.cell?, hh3]
        have hg3 : g < w3.heap.size := hb3.lt
        have htab3 : Tab w3 := HT.out.fr HF3.out (by rintro (e | e); exact hg0 e.symm; exact hr0 e)
        have hu32 : u < 4294967296 := by have := HU.out; omega
        have HT3 := Lib.hid htab3
        have HU32 := Lib.hid hu32
        have kbx : w3.cell? ⟨w.heap.size, 0, none⟩ = some (.int .u32 u) := by simp [World.cell?, HBX3.out]
        have HT3 := Lib.hid htab3
        have HU32 := Lib.hid hu32
        have HP3 := Lib.hid (put1_calls w3.drew w.heap.size u hu32 kbx (htab3.same rfl))
        have hown3 : w3.ownsRow 0 71 5 (.slice A b2.l.length cap) b2.l.length (flat b2.l) := by
          rcases hb3.2.1 with ⟨rfl, hnil, rfl, _⟩ | ⟨r, rfl, _, hcap, hor⟩
          · rw [hnil]; exact ⟨rfl, .inl ⟨rfl, rfl⟩⟩
          · exact Bk_own hor (by unfold maxLen; omega) (Nat.zero_le _)
        have HOWN := Lib.hid hown3
        have HH3 := Lib.hid hh3
        have HN3 := Lib.hid hb3.2.2
        have hnb : (Value.slice A b2.l.length cap).ownBlock = ro := by
          rcases hb3.2.1 with ⟨rfl, _, _, rfl⟩ | ⟨r, rfl, rfl, _⟩ <;> rfl
        have HNB := Lib.hid hnb
        obtain ⟨i0, hi0, hz0, hz1, hz2⟩ := info_parts info_el
        have HI0 := Lib.hid hi0
        have HZ0 := Lib.hid hz0
        have HZ1 := Lib.hid hz1
        have HZ2 := Lib.hid hz2
        clear kbx hb3 hh3 htab3 hu32 hown3 hnb hi0 hz0 hz1 hz2
        go_cut [] (fun wx => ∃ A' cap' ro', Bk wx g A' cap' ro' { b2 with l := b2.l ++ [⟨tokOf u, who, what, b2.now, .string xv, rfl⟩] } ∧ (ro' = ro ∨ ∃ r, ro' = some r ∧ w.heap.size ≤ r) ∧ Fr (fun k => k = g ∨ ro = some k) w wx ∧ wx.heap[w.heap.size]? = some (.cells #[.int .u32 u] 31))
        case first =>
          go_region_law (first
            | (go_simp; go_at_call 24; refine HP3.out.mono ?_; rintro e w4 ⟨rfl, hb4'⟩
               have hb4 : Below w3.heap.size w3 w4 := ⟨hb4'.os, hb4'.tape, hb4'.output, hb4'.size, hb4'.block⟩
               clear hb4'
               have hg4 : g < w4.heap.size := Nat.lt_of_lt_of_le hg3 hb4.size
               have k24 := (hb4.cell (p := ⟨g, 2, none⟩) hg3).trans k2
               have k34 := (hb4.cell (p := ⟨g, 3, none⟩) hg3).trans k3
               have hown4 := Lib.hid (HOWN.out.kept (grown_of_below hb4 none) (by cases (Value.slice A b2.l.length cap).ownBlock <;> simp))
               have HB4 := Lib.hid hb4
               clear hb4)
            | (refine step_append_lies _ (by rfl) (.tmp 47) (.tmp 58) 66 (by rfl) 0 71 i0 _ 5 72 Tryd.underlying66 HI0.out HZ0.out HZ1.out HZ2.out rfl (by omega) (.slice A b2.l.length cap) b2.l.length (flat b2.l) (by rfl) (hown4.out.alloc _)
                ⟨w4.heap.size, 0, none⟩ 1 1 (flat [⟨tokOf u, who, what, b2.now, .string xv, rfl⟩]) (by rfl) (by rfl) (World.news_of_block (cs := #[.string (tokOf u), .string who, .string what, .int .i64 b2.now, .string xv]) (t := 71) (fr := (0, 0)) (heap_alloc_new w4 _)) (flat_one _)
                (by omega) (by have := HLL.out; unfold maxLen; omega) (by have := HLL.out; omega) (Nat.zero_le _) (w4.heap.size + 1) (by simp) ?_; intro gg cap5 w5 hown5 hgrow hat hlt
               have hg5 : w5.heap[g]? = w3.heap[g]? := (hgrow.block g (by simp; have := HB4.out.size; omega) (by rw [HNB.out]; exact fun e => HN3.out e.symm)).trans ((Below.heap_alloc _ _ _ (by have := HB4.out.size; omega)).trans (HB4.out.block g hg3))
               have j3 : ∃ v, w5.cell? ⟨g, 3, none⟩ = some v := ⟨_, by rw [World.cell?_of_block (a := ⟨g, 3, none⟩) hg5]; exact k3⟩
               obtain ⟨v3, j3⟩ := j3
               have jz : w5.frozen? ⟨g, 3, none⟩ = false := by rw [World.frozen?_of_block (a := ⟨g, 3, none⟩) hg5]; simp [World.frozen?, HH3.out]
               have HG5 := Lib.hid hg5
               have HOWN5 := Lib.hid hown5
               have HGROW := Lib.hid hgrow
               have HAT := Lib.hid hat
               clear hg5 hown5 hgrow hat))
          all_goals
            go_wp2_with fail
            go_meet
            exact put_close hg HRL.out hsz3 HB3.out HF3.out HBX3.out HB4.out HNB.out HGROW.out HOWN5.out HAT.out HG5.out
        case rest =>
          obtain ⟨A5, cap5, ro5, hB5, hro5, hF5, hbx5⟩ := hcut
          have htab5 : Tab wc := HT.out.fr hF5 (by rintro (e | e); exact hg0 e.symm; exact hr0 e)
          have HP5 := Lib.hid (put1_calls wc w.heap.size u HU32.out (by simp [World.cell?, hbx5]) htab5)
          have HB5 := Lib.hid hB5
          have HF5 := Lib.hid hF5
          have HRO5 := Lib.hid hro5
          clear hB5 hF5 hbx5 htab5 hro5 k2 k3
          go_wp2_with fail
          refine HP5.out.mono ?_
          rintro e w6 ⟨rfl, hb6⟩
          have HB6 := Lib.hid hb6
          clear HP5 hb6
          go_wp2_with fail
          go_ret
          rw [HBB.out]
          refine ⟨u, A5, cap5, ro5, rfl, HU32.out, fun k hk => tokB_false (HNO.out k hk), ?_, HB5.out.below HB6.out, HRO5.out, HF5.out.trans (Fr.of_below HB6.out)⟩
          intro hfree
          have hu := HU.out
          have hd := HD.out
          rcases Nat.eq_zero_or_pos j with rfl | hjp
          · rw [Nat.add_zero, Nat.mod_eq_of_lt hd] at hu; exact hu
          · obtain ⟨k, hk, e⟩ := HALL.out 0 hjp
            rw [Nat.add_zero, Nat.mod_eq_of_lt hd] at e
            exact absurd e (hfree k hk)
      · rw [h1]
        have HIN := Lib.hid (show ∃ k ∈ b2.l, k.tok = tokOf u from ⟨q, List.mem_of_getElem? h2, tokB_true h4⟩)
        have k0 : w3.cell? ⟨w.heap.size, 0, none⟩ = some (.int .u32 u) := by simp [World.cell?, hbx3]
        have kz : w3.frozen? ⟨w.heap.size, 0, none⟩ = false := by simp [World.frozen?, hbx3]
        have HBX3 := Lib.hid hbx3
        clear h1 h2 h3 h4 h5 hbx3
        go_wp2_with fail
        have hjl := taken_le (l := b2.l) (draw := draw) (j := j) (by have := HLJ.out; omega) HALL.out
        have h1 := HLJ.out
        have h2 := HLL.out
        have hgd : g ≠ w.heap.size := by omega
        go_roundg (gk - 1)
        case measure => omega
        case rel =>
          refine ⟨j + 1, by omega, HB3.out.same (Below.heap_setCell _ _ _ _ hgd) (fun r hr => Below.heap_setCell _ _ _ _ (by have := HRL.out r hr; exact Nat.ne_of_lt this)), ?_, by simpa [World.setCell] using hsz3, Fr.then_ HF3.out (Fr.setCell (S := fun k => k = w.heap.size) _ _ _ rfl) (fun i hi e => absurd e (Nat.ne_of_lt hi)), ?_⟩
          · rw [setCell_heap_at HBX3.out]
            have := HU.out
            congr 3
            simp
            omega
          · intro i hi
            by_cases hij : i < j
            · exact HALL.out i hij
            · obtain rfl : i = j := by omega
              rw [← HU.out]; exact HIN.out
end Go.Proofs.YtefacagkjcmeeaaDoor.S
