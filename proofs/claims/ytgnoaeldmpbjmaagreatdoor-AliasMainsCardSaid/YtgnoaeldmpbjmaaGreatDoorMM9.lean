/- The document's With walked. -/
import Derived.Test.YtgnoaeldmpbjmaaGreatDoorMM8
import Derived.Test.YtgnoaeldmpbjmaaGreatDoorMM7
set_option linter.unusedVariables false
set_option linter.unusedSimpArgs false
namespace Go.Proofs.YtgnoaeldmpbjmaaGreatDoor
open Go.RowKit

set_option maxRecDepth 100000 in
set_option maxHeartbeats 8000000 in
theorem with_ok {w : World} {s : Sl} {l : List Tx} (h : TsIn w s l) {t : T16} {v : V} {p a : List ByteArray} (ht : TIn w t v p a) (hk : l.length + 1 ≤ 586406201480) : ∀ Wf, Below w.heap.size w Wf → Calls Tryz.prog 35 #[.slice s.a s.n s.c, .agg t.cells] Wf fun e w' => ∃ s' : Sl, e = .returned s'.val ∧ TsIn w' s' (withT l (t, v, p, a)) ∧ Below Wf.heap.size Wf w' := by
  intro Wf hbW
  have hn : s.n = l.length := by have := h.r.1; simpa using this
  have HR := Lib.hid h.r.2.2.2
  have HTS := Lib.hid h
  have HTT := Lib.hid ht
  have HBW := Lib.hid hbW
  obtain ⟨xt, hxt⟩ : ∃ xt : Tx, xt = (t, v, p, a) := ⟨_, rfl⟩
  have HXT := Lib.hid hxt
  have hxt1 : xt.1 = t := by rw [hxt]
  have HX1 := Lib.hid hxt1
  rw [← hxt]
  obtain ⟨A, n, c⟩ := s
  dsimp only at hn
  subst hn
  obtain ⟨i0, hi, hz0, hz1, hz2⟩ := info_parts infoT
  have HI := Lib.hid hi
  have HZ0 := Lib.hid hz0
  have HZ1 := Lib.hid hz1
  have HZ2 := Lib.hid hz2
  obtain ⟨w1, hw1⟩ : ∃ w1 : World, w1 = Wf.alloc (.cells t.cells 73) := ⟨_, rfl⟩
  have hb1 : Below Wf.heap.size Wf w1 := by rw [hw1]; exact (Below.refl _ _).alloc (Nat.le_refl _) _
  have HS1 := Lib.hid (show w1.heap.size = Wf.heap.size + 1 by rw [hw1]; simp)
  have hx1 : w1.heap[Wf.heap.size]? = some (.cells t.cells 73 (0, 0)) := by rw [hw1]; exact heap_new_at _ _ _ rfl
  have HB1 := Lib.hid hb1
  have HXB := Lib.hid hx1
  have HW1 := Lib.hid hw1
  cases hst : t.state with
  | false =>
    have HWT := Lib.hid (show withT l xt = l by unfold withT; rw [hxt1, hst]; rfl)
    have st5 : w1.cell? ⟨Wf.heap.size, 5, none⟩ = some (.bool false) := by have := cell_at (j := 5) hx1 rfl; rw [← hst]; exact this
    clear h ht hbW hxt hxt1 hi hz0 hz1 hz2 hw1 hb1 hx1
    go_enter Tryz.func35, Tryz.ntmps35
    go_upto_region 1 with fail
    rw [← HW1.out]
    go_wp2_with fail
    go_ret
    exact ⟨⟨A, l.length, c⟩, rfl, by rw [HWT.out]; exact HTS.out.under (HBW.out.trans (HB1.out.mono HBW.out.size)) rfl, HB1.out⟩
  | true =>
    have HWT := Lib.hid (show withT l xt = if (wst xt l).2 then (wst xt l).1 else (wst xt l).1 ++ [xt] by unfold withT; rw [hxt1, hst]; rfl)
    have st5 : w1.cell? ⟨Wf.heap.size, 5, none⟩ = some (.bool true) := by have := cell_at (j := 5) hx1 rfl; rw [← hst]; exact this
    have HST := Lib.hid hst
    clear h ht hbW hxt hxt1 hi hz0 hz1 hz2 hw1 hb1 hx1 hst
    go_enter Tryz.func35, Tryz.ntmps35
    go_upto_region 1 with fail
    rw [← HW1.out]
    go_wp2_with fail
    clear st5
    go_loopw [5, 6, 14] (fun c5 c6 i wr => ∃ k : Nat, k ≤ l.length ∧ i = .int .i64 k ∧ c6 = .bool (wst xt (l.take k)).2 ∧ wr.ownsRow w1.heap.size 73 16 c5 (wst xt (l.take k)).1.length (tcs (wst xt (l.take k)).1).flatten ∧ Below w1.heap.size w1 wr) (fun _ _ i _ => l.length - (intOf i).toNat)
    case atStart => exact ⟨0, by omega, rfl, rfl, ⟨rfl, .inl ⟨rfl, rfl⟩⟩, Below.refl _ _⟩
    case round =>
      obtain ⟨k, hk', rfl, rfl, hown, hb⟩ := hrel
      have hlen := wst_len xt (l.take k)
      have hlt' : (l.take k).length = k := by simp; omega
      rw [hlt'] at hlen
      obtain ⟨st, hst⟩ : ∃ st, st = wst xt (l.take k) := ⟨_, rfl⟩
      rw [← hst] at hown hlen
      rw [← hst]
      obtain ⟨so, sd⟩ := st
      dsimp only at hown hlen
      dsimp only
      have HOWN := Lib.hid hown
      have HB := Lib.hid hb
      have HSTK := Lib.hid hst
      have hbs := hb.size
      have hbxr : Wf.heap.size < wr.heap.size := by have := HS1.out; omega
      have HBX := Lib.hid (Holds.of_block ((hb.block _ (by have := HS1.out; omega)).trans HXB.out))
      clear hlt' hst
      by_cases hlt : k < l.length
      · obtain ⟨ad, hla, hadl, hcell⟩ := HR.out (by simpa using (by omega : 0 < l.length))
        have hy : l[k]? = some l[k] := List.getElem?_eq_getElem hlt
        generalize l[k] = x at hy
        obtain ⟨y, rest⟩ := x
        have hrow : (l.map fun x => x.1.cells.toList)[k]? = some y.cells.toList := by rw [List.getElem?_map, hy]; rfl
        have hbr : Below w.heap.size w w1 := HBW.out.trans (HB1.out.mono HBW.out.size)
        have had1 : ad.block < w1.heap.size := Nat.lt_of_lt_of_le hadl hbr.size
        have HEC0 := Lib.hid (show Holds w1 (ad.add (k * 16)) y.cells from fun d u hd => by rw [at2_add]; exact (hbr.cell (p := at2 ad (k * 16) d) (by rw [at2_block]; exact hadl)).trans (hcell k d _ _ hrow (by simpa using hd)))
        have HEC := Lib.hid (HEC0.out.below hb (by rw [block_add]; exact had1))
        have hadr : ad.block < wr.heap.size := Nat.lt_of_lt_of_le had1 hb.size
        have htk : wst xt (l.take (k + 1)) = wstep xt (so, sd) (y, rest) := by
          rw [HSTK.out]
          unfold wst
          rw [List.take_add_one, hy]
          simp
        have HTK2 := Lib.hid htk
        have HY := Lib.hid hy
        subst hla
        clear hy hrow hcell hbr hown hb htk
        go_upto_region 8 with fail
        go_cut [29] (fun c wx => c = .bool (!sd && !less2 y.k t.k) ∧ Below wr.heap.size wr wx)
        case first =>
          cases sd with
          | true =>
            go_quiet (fail)
            go_wp2_with fail
            go_meet
            exact ⟨rfl, below_drewN' (Below.refl _ _) _⟩
          | false =>
            refine wt_start (S := fun W => Below wr.heap.size wr W) 12 (by kernel_rfl) ⟨by kernel_rfl, by kernel_rfl, by kernel_rfl, by decide⟩ ?_
            intro HTK
            have hS0 : Below wr.heap.size wr wr.drew := (Below.refl _ _).drew
            refine wt_take (i := 0) (v := ?_) HTK.out rfl (by decide) (by kernel_rfl) (by kernel_rfl) (fun _ _ _ h => h) (by exact hS0) (Or.inl ⟨by rfl, ?_⟩) ?_
            rotate_left
            · intro W hSw
              try dsimp only at hSw
              go_simp
              try (with_reducible rfl)
            try simp only [List.getElem_toArray, List.getElem_cons_zero, List.getElem_cons_succ, Act.put, List.setIfInBounds_toArray, List.set_cons_zero, List.set_cons_succ]
            refine wt_take (i := 1) (v := ?_) HTK.out rfl (by decide) (by kernel_rfl) (by kernel_rfl) (fun _ _ _ h => h) (by exact hS0) (Or.inl ⟨by rfl, ?_⟩) ?_
            rotate_left
            · intro W hSw
              try dsimp only at hSw
              go_simp
              try (with_reducible rfl)
            try simp only [List.getElem_toArray, List.getElem_cons_zero, List.getElem_cons_succ, Act.put, List.setIfInBounds_toArray, List.set_cons_zero, List.set_cons_succ]
            refine wt_take (i := 2) (v := ?_) HTK.out rfl (by decide) (by kernel_rfl) (by kernel_rfl) (fun _ _ _ h => h) (by exact hS0) (Or.inl ⟨by rfl, ?_⟩) ?_
            rotate_left
            · intro W hSw
              try dsimp only at hSw
              go_simp
              try (with_reducible rfl)
            try simp only [List.getElem_toArray, List.getElem_cons_zero, List.getElem_cons_succ, Act.put, List.setIfInBounds_toArray, List.set_cons_zero, List.set_cons_succ]
            refine wt_take (i := 3) (v := ?_) HTK.out rfl (by decide) (by kernel_rfl) (by kernel_rfl) (fun _ _ _ h => h) (by exact hS0) (Or.inl ⟨by rfl, ?_⟩) ?_
            rotate_left
            · intro W hSw
              try dsimp only at hSw
              go_simp
              try (with_reducible rfl)
            try simp only [List.getElem_toArray, List.getElem_cons_zero, List.getElem_cons_succ, Act.put, List.setIfInBounds_toArray, List.set_cons_zero, List.set_cons_succ]
            refine wt_take (i := 4) (v := ?_) HTK.out rfl (by decide) (by kernel_rfl) (by kernel_rfl) (fun _ _ _ h => h) (by exact hS0) (Or.inl ⟨by rfl, ?_⟩) ?_
            rotate_left
            · intro W hSw
              try dsimp only at hSw
              go_simp
              try (with_reducible rfl)
            try simp only [List.getElem_toArray, List.getElem_cons_zero, List.getElem_cons_succ, Act.put, List.setIfInBounds_toArray, List.set_cons_zero, List.set_cons_succ]
            refine wt_take (i := 5) (v := ?_) HTK.out rfl (by decide) (by kernel_rfl) (by kernel_rfl) (fun _ _ _ h => h) (by exact hS0) (Or.inl ⟨by rfl, ?_⟩) ?_
            rotate_left
            · intro W hSw
              try dsimp only at hSw
              go_simp
              try (with_reducible rfl)
            try simp only [List.getElem_toArray, List.getElem_cons_zero, List.getElem_cons_succ, Act.put, List.setIfInBounds_toArray, List.set_cons_zero, List.set_cons_succ]
            refine wt_take (i := 6) (v := .agg y.cells) HTK.out rfl (by decide) (by kernel_rfl) (by kernel_rfl) (fun _ _ _ h => h) (by exact hS0) (yieldsIf_load_at (by rfl) _ _ (by rfl) _ (by rfl) y.cells _ (fun W hSw => HEC.out.below hSw (by rw [block_add]; exact hadr)) Tryz.underlying73 (by rfl) (sizeT _)) ?_
            try simp only [List.getElem_toArray, List.getElem_cons_zero, List.getElem_cons_succ, Act.put, List.setIfInBounds_toArray, List.set_cons_zero, List.set_cons_succ]
            refine wt_take (i := 8) (v := .agg t.cells) HTK.out rfl (by decide) (by kernel_rfl) (by kernel_rfl) (fun _ _ _ h => h) (by exact hS0) (yieldsIf_load_at (by rfl) _ _ (by rfl) _ (by rfl) t.cells _ (fun W hSw => HBX.out.below hSw (by exact hbxr)) Tryz.underlying73 (by rfl) (sizeT _)) ?_
            try simp only [List.getElem_toArray, List.getElem_cons_zero, List.getElem_cons_succ, Act.put, List.setIfInBounds_toArray, List.set_cons_zero, List.set_cons_succ]
            refine wt_ready (rs := [7]) (by kernel_rfl) (by simp) ?_
            refine AllT.cons rfl (by decide) (fun K hK => ?_) ?_
            · go_simp
              go_at_call 60
              refine (tof_calls y _).mono ?_
              rintro e w1' ⟨rfl, hbz⟩
              have hS1 := hS0.trans (hbz.mono hS0.size)
              clear hbz
              refine hK.out _ _ (by exact hS1) ?_
              clear hK K
              try simp only [List.getElem_toArray, List.getElem_cons_zero, List.getElem_cons_succ, Act.put, List.setIfInBounds_toArray, List.set_cons_zero, List.set_cons_succ]
              refine wt_ready (rs := [9]) (by kernel_rfl) (by simp) ?_
              refine AllT.cons rfl (by decide) (fun K hK => ?_) ?_
              · go_simp
                go_at_call 60
                refine (tof_calls t _).mono ?_
                rintro e w2 ⟨rfl, hbz⟩
                have hS2 := hS1.trans (hbz.mono hS1.size)
                clear hbz
                refine hK.out _ _ (by exact hS2) ?_
                clear hK K
                try simp only [List.getElem_toArray, List.getElem_cons_zero, List.getElem_cons_succ, Act.put, List.setIfInBounds_toArray, List.set_cons_zero, List.set_cons_succ]
                refine wt_ready (rs := [10]) (by kernel_rfl) (by simp) ?_
                refine AllT.cons rfl (by decide) (fun K hK => ?_) ?_
                · go_simp
                  go_at_call 59
                  refine (less_calls y.k t.k _).mono ?_
                  rintro e w3 ⟨rfl, hbz⟩
                  have hS3 := hS2.trans (hbz.mono hS2.size)
                  clear hbz
                  refine hK.out _ _ (by exact hS3) ?_
                  clear hK K
                  try simp only [List.getElem_toArray, List.getElem_cons_zero, List.getElem_cons_succ, Act.put, List.setIfInBounds_toArray, List.set_cons_zero, List.set_cons_succ]
                  refine wt_take (i := 11) (v := ?_) HTK.out rfl (by decide) (by kernel_rfl) (by kernel_rfl) (fun _ _ _ h => h) (by exact hS3) (Or.inl ⟨by rfl, ?_⟩) ?_
                  rotate_left
                  · intro W hSw
                    try dsimp only at hSw
                    go_simp
                    try (with_reducible rfl)
                  try simp only [List.getElem_toArray, List.getElem_cons_zero, List.getElem_cons_succ, Act.put, List.setIfInBounds_toArray, List.set_cons_zero, List.set_cons_succ]
                  refine wt_last (k := 12) (by kernel_rfl) (by kernel_rfl) (by decide) rfl (fun K hK => ?_)
                  go_simp
                  refine hK.out _ _ ?_
                  clear hK K
                  try simp only [List.getElem_toArray, List.getElem_cons_zero, List.getElem_cons_succ, Act.put, List.setIfInBounds_toArray, List.set_cons_zero, List.set_cons_succ]
                  go_wp2_with fail
                  go_meet
                  exact ⟨by first | rfl | simp, hS3⟩
                exact AllT.nil
              exact AllT.nil
            exact AllT.nil
        case rest =>
          obtain ⟨rfl, hbc⟩ := hcut
          have HOC := Lib.hid (ownsRow_below HOWN.out hbc)
          have HBC := Lib.hid (HB.out.trans (hbc.mono HB.out.size))
          have HBX1 := Lib.hid (HBX.out.below hbc (by exact hbxr))
          have HEC1 := Lib.hid (HEC.out.below hbc (by rw [block_add]; exact hadr))
          have hadr1 : ad.block < wc.heap.size := Nat.lt_of_lt_of_le hadr hbc.size
          have hs1c : w1.heap.size ≤ wc.heap.size := HBC.out.size
          obtain ⟨wp, hwp⟩ : ∃ wn : World, wn = wc := ⟨_, rfl⟩
          subst hwp
          clear hbc HOWN HB HBX HEC hbs
          go_upto_if 29 with fail
          go_cut [5, 6] (fun c5 c6 wx => ∃ st : List Tx × Bool, st = wput xt (y, rest) (so, sd) ∧ c6 = .bool st.2 ∧ wx.ownsRow w1.heap.size 73 16 c5 st.1.length (tcs st.1).flatten ∧ Below w1.heap.size w1 wx ∧ st.1.length ≤ k + 1)
          case first =>
            cases hbit : (!sd && !less2 y.k t.k) with
            | true =>
              have hsd : sd = false := by cases sd with | true => simp at hbit | false => rfl
              have HPT := Lib.hid (show wput xt (y, rest) (so, sd) = (so ++ [xt], true) by unfold wput; dsimp only; rw [HX1.out, hbit]; rfl)
              have hso : so.length ≤ k := by simp [hsd] at hlen; exact hlen
              skip
              have HFL := Lib.hid (flat_len so)
              have HXC := Lib.hid (show (tcs so).flatten ++ t.cells.toList = (tcs (so ++ [xt])).flatten by rw [← tcs_flat, ← HX1.out])
              go_wp2_with (first | (refine wpList_load_at rfl _ _ rfl _ rfl t.cells _ HBX1.out Tryz.underlying73 rfl (sizeT _) ?_) | (at_builtin; refine wpList_append_own _ rfl _ _ 23 rfl w1.heap.size 73 i0 _ 16 240 Tryz.underlying23 HI.out HZ0.out HZ1.out HZ2.out rfl (by decide) _ so.length (tcs so).flatten rfl (HOC.out.alloc _) ⟨wp.heap.size, 0, none⟩ 1 1 t.cells.toList rfl rfl ?c1 ?c2 ?c3 ?c4 ?c5 ?_))
              case c2 => (refine ⟨?_, ?_, ?_, ?_, ?_, ?_, ?_, ?_, ?_, ?_, ?_, ?_, ?_, ?_, ?_, ?_⟩ <;> rfl)
              case c3 => unfold maxLen; omega
              case c4 => omega
              case c5 => first | (simp; omega) | (have := HBC.out.size; omega)
              intro v' w4 hown4 hg4 _
              have HOv4 := Lib.hid hown4
              have HBv4 := Lib.hid ((HBC.out.alloc HBC.out.size (.cells t.cells 73)).grown hg4 (by have := HBC.out.size; simp; omega) (fun j hj => (HOC.out.lt j hj).1))
              clear hown4 hg4
              go_wp2_with fail
              go_meet
              refine ⟨(so ++ [xt], true), HPT.out.symm, rfl, ?_, HBv4.out, by simp; omega⟩
              have hle : (so ++ [xt]).length = so.length + 1 := by simp
              dsimp only
              rw [hle, ← HXC.out]
              exact HOv4.out
            | false =>
              have HPT := Lib.hid (show wput xt (y, rest) (so, sd) = (so, sd) by unfold wput; dsimp only; rw [HX1.out, hbit]; rfl)
              have hso : so.length ≤ k + 1 := by omega
              go_wp2_with fail
              go_meet
              exact ⟨(so, sd), HPT.out.symm, rfl, HOC.out, HBC.out, hso⟩
          case rest =>
            obtain ⟨⟨sp, sq⟩, hst, rfl, hop, hb1p, hspl⟩ := hcut
            dsimp only at hop hspl
            have HOP := Lib.hid hop
            have HB1P := Lib.hid hb1p
            have HSP := Lib.hid hst
            have hsz1 := hb1p.size
            have hbxr2 : Wf.heap.size < wc.heap.size := by have := HS1.out; omega
            have HBX2 := Lib.hid (Holds.of_block ((hb1p.block _ (by have := HS1.out; omega)).trans HXB.out))
            have HEC2 := Lib.hid (HEC0.out.below hb1p (by rw [block_add]; exact had1))
            have hadr2 : ad.block < wc.heap.size := Nat.lt_of_lt_of_le had1 hb1p.size
            clear hop hb1p hst HOC HBC HBX1 HEC1 hadr1 hs1c hadr
            obtain ⟨wq, hwq⟩ : ∃ wn : World, wn = wc := ⟨_, rfl⟩
            subst hwq
            go_upto_region 11 with fail
            go_cut [41] (fun c wx => c = .bool (!same2 y.k t.k) ∧ Below wq.heap.size wq wx)
            case first =>
              refine wt_start (S := fun W => Below wq.heap.size wq W) 7 (by kernel_rfl) ⟨by kernel_rfl, by kernel_rfl, by kernel_rfl, by decide⟩ ?_
              intro HTK
              have hS0 : Below wq.heap.size wq wq.drew := (Below.refl _ _).drew
              refine wt_take (i := 0) (v := ?_) HTK.out rfl (by decide) (by kernel_rfl) (by kernel_rfl) (fun _ _ _ h => h) (by exact hS0) (Or.inl ⟨by rfl, ?_⟩) ?_
              rotate_left
              · intro W hSw
                try dsimp only at hSw
                go_simp
                try (with_reducible rfl)
              try simp only [List.getElem_toArray, List.getElem_cons_zero, List.getElem_cons_succ, Act.put, List.setIfInBounds_toArray, List.set_cons_zero, List.set_cons_succ]
              refine wt_take (i := 1) (v := ?_) HTK.out rfl (by decide) (by kernel_rfl) (by kernel_rfl) (fun _ _ _ h => h) (by exact hS0) (Or.inl ⟨by rfl, ?_⟩) ?_
              rotate_left
              · intro W hSw
                try dsimp only at hSw
                go_simp
                try (with_reducible rfl)
              try simp only [List.getElem_toArray, List.getElem_cons_zero, List.getElem_cons_succ, Act.put, List.setIfInBounds_toArray, List.set_cons_zero, List.set_cons_succ]
              refine wt_take (i := 2) (v := ?_) HTK.out rfl (by decide) (by kernel_rfl) (by kernel_rfl) (fun _ _ _ h => h) (by exact hS0) (Or.inl ⟨by rfl, ?_⟩) ?_
              rotate_left
              · intro W hSw
                try dsimp only at hSw
                go_simp
                try (with_reducible rfl)
              try simp only [List.getElem_toArray, List.getElem_cons_zero, List.getElem_cons_succ, Act.put, List.setIfInBounds_toArray, List.set_cons_zero, List.set_cons_succ]
              refine wt_take (i := 3) (v := .agg y.cells) HTK.out rfl (by decide) (by kernel_rfl) (by kernel_rfl) (fun _ _ _ h => h) (by exact hS0) (yieldsIf_load_at (by rfl) _ _ (by rfl) _ (by rfl) y.cells _ (fun W hSw => HEC2.out.below hSw (by rw [block_add]; exact hadr2)) Tryz.underlying73 (by rfl) (sizeT _)) ?_
              try simp only [List.getElem_toArray, List.getElem_cons_zero, List.getElem_cons_succ, Act.put, List.setIfInBounds_toArray, List.set_cons_zero, List.set_cons_succ]
              refine wt_take (i := 5) (v := .agg t.cells) HTK.out rfl (by decide) (by kernel_rfl) (by kernel_rfl) (fun _ _ _ h => h) (by exact hS0) (yieldsIf_load_at (by rfl) _ _ (by rfl) _ (by rfl) t.cells _ (fun W hSw => HBX2.out.below hSw (by exact hbxr2)) Tryz.underlying73 (by rfl) (sizeT _)) ?_
              try simp only [List.getElem_toArray, List.getElem_cons_zero, List.getElem_cons_succ, Act.put, List.setIfInBounds_toArray, List.set_cons_zero, List.set_cons_succ]
              refine wt_ready (rs := [4]) (by kernel_rfl) (by simp) ?_
              refine AllT.cons rfl (by decide) (fun K hK => ?_) ?_
              · go_simp
                go_at_call 60
                refine (tof_calls' y _).mono ?_
                rintro e w1' ⟨rfl, hbz⟩
                have hS1 := hS0.trans (hbz.mono hS0.size)
                clear hbz
                refine hK.out _ _ (by exact hS1) ?_
                clear hK K
                try simp only [List.getElem_toArray, List.getElem_cons_zero, List.getElem_cons_succ, Act.put, List.setIfInBounds_toArray, List.set_cons_zero, List.set_cons_succ]
                refine wt_ready (rs := [6]) (by kernel_rfl) (by simp) ?_
                refine AllT.cons rfl (by decide) (fun K hK => ?_) ?_
                · go_simp
                  go_at_call 60
                  refine (tof_calls' t _).mono ?_
                  rintro e w2 ⟨rfl, hbz⟩
                  have hS2 := hS1.trans (hbz.mono hS1.size)
                  clear hbz
                  refine hK.out _ _ (by exact hS2) ?_
                  clear hK K
                  try simp only [List.getElem_toArray, List.getElem_cons_zero, List.getElem_cons_succ, Act.put, List.setIfInBounds_toArray, List.set_cons_zero, List.set_cons_succ]
                  refine wt_last (k := 7) (by kernel_rfl) (by kernel_rfl) (by decide) rfl (fun K hK => ?_)
                  go_simp
                  rw [neq_if]
                  go_simp
                  refine hK.out _ _ ?_
                  clear hK K
                  try simp only [List.getElem_toArray, List.getElem_cons_zero, List.getElem_cons_succ, Act.put, List.setIfInBounds_toArray, List.set_cons_zero, List.set_cons_succ]
                  go_wp2_with fail
                  go_meet
                  exact ⟨rfl, hS2⟩
                exact AllT.nil
              exact AllT.nil
            case rest =>
              obtain ⟨rfl, hbc⟩ := hcut
              have HOC := Lib.hid (ownsRow_below HOP.out hbc)
              have HBC := Lib.hid (HB1P.out.trans (hbc.mono HB1P.out.size))
              have HEC1 := Lib.hid (HEC0.out.below HBC.out (by rw [block_add]; exact had1))
              have hadr1 : ad.block < wc.heap.size := Nat.lt_of_lt_of_le had1 HBC.out.size
              have hs1c : w1.heap.size ≤ wc.heap.size := HBC.out.size
              obtain ⟨wp, hwp⟩ : ∃ wn : World, wn = wc := ⟨_, rfl⟩
              subst hwp
              clear hbc HOP HBX2 HEC2 hsz1 hadr2
              cases hsm : same2 y.k t.k with
              | true =>
                have HWS := Lib.hid (show wstep xt (so, sd) (y, rest) = (sp, sq) by unfold wstep; dsimp only; rw [HX1.out, hsm, ← HSP.out]; rfl)
                have hsmn : (!same2 y.k t.k) = false := by rw [hsm]; rfl
                clear hsm
                go_wp2_with fail
                refine ⟨⟨k + 1, by omega, by go_num, ?_, ?_, HBC.out⟩, by simp [intOf]; omega⟩
                · rw [HTK2.out, HWS.out]
                · rw [HTK2.out, HWS.out]; exact HOC.out
              | false =>
                have HWS := Lib.hid (show wstep xt (so, sd) (y, rest) = (sp ++ [(y, rest)], sq) by unfold wstep; dsimp only; rw [HX1.out, hsm, ← HSP.out]; rfl)
                have hsmn : (!same2 y.k t.k) = true := by rw [hsm]; rfl
                clear hsm
                skip
                have HFL := Lib.hid (flat_len sp)
                have HXC := Lib.hid (show (tcs sp).flatten ++ y.cells.toList = (tcs (sp ++ [(y, rest)])).flatten from tcs_flat sp (y, rest))
                go_wp2_with (first | (refine wpList_load_at rfl _ _ rfl _ rfl y.cells _ HEC1.out Tryz.underlying73 rfl (sizeT _) ?_) | (at_builtin; refine wpList_append_own _ rfl _ _ 23 rfl w1.heap.size 73 i0 _ 16 240 Tryz.underlying23 HI.out HZ0.out HZ1.out HZ2.out rfl (by decide) _ sp.length (tcs sp).flatten rfl (HOC.out.alloc _) ⟨wp.heap.size, 0, none⟩ 1 1 y.cells.toList rfl rfl ?d1 ?d2 ?d3 ?d4 ?d5 ?_))
                case d2 => (refine ⟨?_, ?_, ?_, ?_, ?_, ?_, ?_, ?_, ?_, ?_, ?_, ?_, ?_, ?_, ?_, ?_⟩ <;> rfl)
                case d3 => unfold maxLen; omega
                case d4 => omega
                case d5 => first | (simp; omega) | (have := HBC.out.size; omega)
                intro v' w4 hown4 hg4 _
                have HOv4 := Lib.hid hown4
                have HBv4 := Lib.hid ((HBC.out.alloc HBC.out.size (.cells y.cells 73)).grown hg4 (by have := HBC.out.size; simp; omega) (fun j hj => (HOC.out.lt j hj).1))
                clear hown4 hg4
                go_wp2_with fail
                have hle : (sp ++ [(y, rest)]).length = sp.length + 1 := by simp
                refine ⟨⟨k + 1, by omega, by go_num, ?_, ?_, HBv4.out⟩, by simp [intOf]; omega⟩
                · rw [HTK2.out, HWS.out]
                · rw [HTK2.out, HWS.out]
                  dsimp only
                  rw [hle, ← HXC.out]
                  exact HOv4.out
      · obtain rfl : k = l.length := by omega
        have hwl : withT l xt = if sd then so else so ++ [xt] := by rw [HWT.out, ← (show wst xt (l.take l.length) = wst xt l by rw [List.take_length]), ← HSTK.out]
        have HWL := Lib.hid hwl
        clear hwl
        have HEL := Lib.hid (fun (Wf' : World) (hW : Below w.heap.size w Wf') (z : Tx) (hz : z ∈ withT l xt) => show TIn Wf' z.1 z.2.1 z.2.2.1 z.2.2.2 from by
          rcases withT_mem hz with h | h
          · exact (HTS.out.e z h).under hW rfl
          · rw [h, HXT.out]; exact HTT.out.under hW rfl)
        have HBR := Lib.hid (HBW.out.trans ((HB1.out.trans (hb.mono HB1.out.size)).mono HBW.out.size))
        have HBF := Lib.hid (HB1.out.trans (hb.mono HB1.out.size))
        obtain ⟨wp, hwp⟩ : ∃ wn : World, wn = wr := ⟨_, rfl⟩
        subst hwp
        cases sd with
        | true =>
          have hwl : withT l xt = so := by rw [HWL.out]; rfl
          have HWS := Lib.hid hwl
          obtain ⟨s', rfl, hr'⟩ := RowB.of_own (K := 586406201480) (l := tcs so) HOWN.out (fun c hc => by obtain ⟨x, _, rfl⟩ := List.mem_map.1 hc; rfl) (by decide) (by simp; omega)
          have HRB := Lib.hid hr'
          clear hown hb hr' hwl HOWN HBX hbs
          go_wp2_with fail
          go_ret
          refine ⟨s', rfl, ⟨?_, HEL.out _ HBR.out⟩, HBF.out⟩
          rw [HWS.out]
          exact HRB.out.toIn
        | false =>
          have hwl : withT l xt = so ++ [xt] := by rw [HWL.out]; rfl
          have HWS := Lib.hid hwl
          have HFL := Lib.hid (flat_len so)
          have HXC := Lib.hid (show (tcs so).flatten ++ t.cells.toList = (tcs (so ++ [xt])).flatten by rw [← tcs_flat, ← HX1.out])
          have hs1c : w1.heap.size ≤ wp.heap.size := hb.size
          have hso : so.length ≤ l.length := by simpa using hlen
          have HOC := Lib.hid HOWN.out
          have HBC := Lib.hid HB.out
          skip
          clear hown hb hwl HOWN hbs HB
          go_wp2_with (first | (refine wpList_load_at rfl _ _ rfl _ rfl t.cells _ HBX.out Tryz.underlying73 rfl (sizeT _) ?_) | (at_builtin; refine wpList_append_own _ rfl _ _ 23 rfl w1.heap.size 73 i0 _ 16 240 Tryz.underlying23 HI.out HZ0.out HZ1.out HZ2.out rfl (by decide) _ so.length (tcs so).flatten rfl (HOC.out.alloc _) ⟨wp.heap.size, 0, none⟩ 1 1 t.cells.toList rfl rfl ?e1 ?e2 ?e3 ?e4 ?e5 ?_))
          case e2 => (refine ⟨?_, ?_, ?_, ?_, ?_, ?_, ?_, ?_, ?_, ?_, ?_, ?_, ?_, ?_, ?_, ?_⟩ <;> rfl)
          case e3 => unfold maxLen; omega
          case e4 => omega
          case e5 => first | (simp; omega) | (have := HBC.out.size; omega)
          intro v' w4 hown4 hg4 _
          have HOv4 := Lib.hid hown4
          have HBv4 := Lib.hid ((HBC.out.alloc HBC.out.size (.cells t.cells 73)).grown hg4 (by have := HBC.out.size; simp; omega) (fun j hj => (HOC.out.lt j hj).1))
          clear hown4 hg4
          have hle : (tcs (so ++ [xt])).flatten = (tcs so).flatten ++ t.cells.toList := HXC.out.symm
          have hown5 : w4.ownsRow w1.heap.size 73 16 v' (so.length + 1) (tcs (so ++ [xt])).flatten := by rw [hle]; exact HOv4.out
          obtain ⟨s', rfl, hr'⟩ := RowB.of_own (K := 586406201480) (l := tcs (so ++ [xt])) hown5 (fun c hc => by obtain ⟨x, _, rfl⟩ := List.mem_map.1 hc; rfl) (by decide) (by simp; omega)
          have HRB := Lib.hid hr'
          have HBR4 := Lib.hid (HBW.out.trans ((HB1.out.trans (HBv4.out.mono HB1.out.size)).mono HBW.out.size))
          have HBF4 := Lib.hid (HB1.out.trans (HBv4.out.mono HB1.out.size))
          clear hle hown5 hr' HOv4
          go_wp2_with fail
          go_ret
          refine ⟨s', rfl, ⟨?_, HEL.out _ HBR4.out⟩, HBF4.out⟩
          rw [HWS.out]
          exact HRB.out.toIn
end Go.Proofs.YtgnoaeldmpbjmaaGreatDoor
/- An event of the document made the program's: what stands between. -/
set_option linter.unusedVariables false
namespace Go.Proofs.YtgnoaeldmpbjmaaGreatDoor
open Go.RowKit

/-- The program's event: its cells reach this. -/
structure EvR (w : World) (P : Nat → Prop) (e : T16) (v : V) (p a : List ByteArray) : Prop where
  c : RepV w P e.content v
  pr : RowB 8796093022207 w P 9 1 e.prev (trows p)
  ar : RowB 8796093022207 w P 9 1 e.auth (trows a)
theorem EvR.mono {w : World} {P Q : Nat → Prop} {e : T16} {v : V} {p a : List ByteArray} (h : EvR w P e v p a) (hq : ∀ g, g < w.heap.size → P g → Q g) : EvR w Q e v p a := ⟨h.c.mono hq, h.pr.mono hq, h.ar.mono hq⟩
theorem EvR.same {w w' : World} {P : Nat → Prop} {e : T16} {v : V} {p a : List ByteArray} (h : EvR w P e v p a) (hs : w.heap.size ≤ w'.heap.size) (hb : ∀ g, g < w.heap.size → P g → w'.heap[g]? = w.heap[g]?) : EvR w' P e v p a := ⟨h.c.same hs hb, h.pr.same hs hb, h.ar.same hs hb⟩
theorem trows_one (l : List ByteArray) : ∀ u ∈ (trows l).flatten, u.oneCell' = true := by
  intro u hu
  obtain ⟨c, hc, hu⟩ := List.mem_flatten.1 hu
  obtain ⟨x, _, rfl⟩ := List.mem_map.1 hc
  simp at hu
  subst hu
  rfl
theorem trows_len (l : List ByteArray) : ∀ c ∈ trows l, c.length = 1 := by
  intro c hc
  obtain ⟨x, _, rfl⟩ := List.mem_map.1 hc
  rfl
theorem trows_flat (l : List ByteArray) : (trows l).flatten.length = l.length := by
  rw [flatten_length (sz := 1) _ (trows_len l)]
  simp
/-- Texts that came in, as a source of an append. -/
theorem RowIn.src {K : Nat} {w : World} {s : Sl} {l : List ByteArray} (h : RowIn K w 1 s (trows l)) (hc : s.a = none → s.c = 0) : Src w 1 s.a s.n s.c (trows l) := by
  obtain ⟨h1, _, _, h4⟩ := h
  refine ⟨h1, trows_len l, trows_one l, ?_⟩
  cases ha : s.a with
  | none =>
    refine .inl ⟨rfl, ?_, hc ha⟩
    rcases Nat.eq_zero_or_pos (trows l).length with h | h
    · rw [h1, h]
    · obtain ⟨ad, e, _⟩ := h4 h
      rw [ha] at e; cases e
  | some ad =>
    refine .inr ⟨ad, rfl, fun j u hj => ?_⟩
    have hjl := (List.getElem?_eq_some_iff.1 hj).1
    rw [trows_flat] at hjl
    obtain ⟨ad', e, _, hcell⟩ := h4 (by simp; omega)
    rw [ha] at e
    injection e with e
    subst e
    have hx : (trows l)[j]? = some [.string l[j]] := by simp [hjl]
    have hf := flatten_get (sz := 1) (trows l) (trows_len l) j 0 _ hx (by omega)
    rw [Nat.mul_one, Nat.add_zero, hj] at hf
    have := hcell j 0 _ u hx (by rw [← hf])
    rw [Nat.mul_one] at this
    exact this
theorem infoStr1 : (Tryz.prog.info? 9).map (fun i => (i.zero, i.size, i.bytes)) = some (some (.string ⟨#[]⟩), 1, 16) := by kernel_rfl
theorem sizeE (t : T16) : (Tryz.prog.info? 97).map (·.size) = some t.cells.size := show _ = some 16 from by kernel_rfl
theorem t16_all (t : T16) : t.cells.all (·.oneCell') = true := Array.all_eq_true_iff_forall_mem.2 (fun v hv => tcells_one t v (by simpa using hv))
/-- What stands between: oc the content that is made, b1, b2 the blocks of the two empty slices, op, oa the lists that are made. -/
structure Es (wb : World) (v : V) (p a : List ByteArray) (oc : Option V6) (b1 b2 : Option Nat) (op oa : Option Sl) (w : World) : Prop where
  bel : Below wb.heap.size wb w
  rep : ∀ x, oc = some x → RepV w (fun g => wb.heap.size ≤ g ∧ b1 ≠ some g ∧ b2 ≠ some g) x v
  e1 : ∀ g, b1 = some g → wb.heap.size ≤ g ∧ g < w.heap.size ∧ (op = none → w.heap[g]? = some (.cells #[] 9 (0, 0)))
  e2 : ∀ g, b2 = some g → wb.heap.size ≤ g ∧ g < w.heap.size ∧ (oa = none → w.heap[g]? = some (.cells #[] 9 (0, 0))) ∧ b1 ≠ some g
  rp : ∀ s, op = some s → RowB 8796093022207 w (fun g => wb.heap.size ≤ g ∧ b2 ≠ some g) 9 1 s (trows p)
  ra : ∀ s, oa = some s → RowB 8796093022207 w (fun g => wb.heap.size ≤ g) 9 1 s (trows a)
theorem Es.start (wb : World) (v : V) (p a : List ByteArray) : Es wb v p a none none none none none wb.drew :=
  ⟨(Below.refl _ _).drew, by simp, by simp, by simp, by simp, by simp⟩
theorem Es.call {wb w w' : World} {v : V} {p a : List ByteArray} {b1 b2 : Option Nat} {op : Option Sl} {x : V6} (h : Es wb v p a none b1 b2 op none w) (hb : Below w.heap.size w w') (hr : RepV w' (fun g => w.heap.size ≤ g) x v) : Es wb v p a (some x) b1 b2 op none w' := by
  refine ⟨h.bel.trans (hb.mono h.bel.size), ?_, ?_, ?_, fun s e => (h.rp s e).same hb.size (fun g hg _ => hb.block g hg), by simp⟩
  · intro y e
    injection e with e
    subst e
    exact hr.mono (fun g _ hg => ⟨Nat.le_trans h.bel.size hg, fun e => by have := (h.e1 g e).2.1; omega, fun e => by have := (h.e2 g e).2.1; omega⟩)
  · intro g e
    obtain ⟨h1, h2, h3⟩ := h.e1 g e
    exact ⟨h1, Nat.lt_of_lt_of_le h2 hb.size, fun e => (hb.block g h2).trans (h3 e)⟩
  · intro g e
    obtain ⟨h1, h2, h3, h4⟩ := h.e2 g e
    exact ⟨h1, Nat.lt_of_lt_of_le h2 hb.size, fun e => (hb.block g h2).trans (h3 e), h4⟩
theorem Es.new1 {wb w : World} {v : V} {p a : List ByteArray} {oc : Option V6} {b2 : Option Nat} (h : Es wb v p a oc none b2 none none w) : Es wb v p a oc (some w.heap.size) b2 none none (w.alloc (.cells #[] 9)) := by
  have hb : Below w.heap.size w (w.alloc (.cells #[] 9)) := (Below.refl _ _).alloc (Nat.le_refl _) _
  refine ⟨h.bel.trans (hb.mono h.bel.size), ?_, ?_, ?_, by simp, by simp⟩
  · intro x e
    exact ((h.rep x e).mono (fun g hg hp => (⟨hp.1, fun e => by injection e with e; omega, hp.2.2⟩ : wb.heap.size ≤ g ∧ some w.heap.size ≠ some g ∧ b2 ≠ some g))).same hb.size (fun g hg _ => hb.block g hg)
  · intro g e
    injection e with e
    subst e
    exact ⟨h.bel.size, by simp, fun _ => heap_new_at _ _ _ rfl⟩
  · intro g e
    obtain ⟨h1, h2, h3, h4⟩ := h.e2 g e
    exact ⟨h1, Nat.lt_of_lt_of_le h2 hb.size, fun e => (hb.block g h2).trans (h3 e), fun e => by injection e with e; omega⟩
theorem Es.new2 {wb w : World} {v : V} {p a : List ByteArray} {oc : Option V6} {b1 : Option Nat} {op : Option Sl} (h : Es wb v p a oc b1 none op none w) : Es wb v p a oc b1 (some w.heap.size) op none (w.alloc (.cells #[] 9)) := by
  have hb : Below w.heap.size w (w.alloc (.cells #[] 9)) := (Below.refl _ _).alloc (Nat.le_refl _) _
  refine ⟨h.bel.trans (hb.mono h.bel.size), ?_, ?_, ?_, ?_, by simp⟩
  · intro x e
    exact ((h.rep x e).mono (fun g hg hp => (⟨hp.1, hp.2.1, fun e => by injection e with e; omega⟩ : wb.heap.size ≤ g ∧ b1 ≠ some g ∧ some w.heap.size ≠ some g))).same hb.size (fun g hg _ => hb.block g hg)
  · intro g e
    obtain ⟨h1, h2, h3⟩ := h.e1 g e
    exact ⟨h1, Nat.lt_of_lt_of_le h2 hb.size, fun e => (hb.block g h2).trans (h3 e)⟩
  · intro g e
    injection e with e
    subst e
    exact ⟨h.bel.size, by simp, fun _ => heap_new_at _ _ _ rfl, fun e => by have := (h.e1 _ e).2.1; omega⟩
  · intro s e
    exact ((h.rp s e).mono (fun g hg hp => (⟨hp.1, fun e => by injection e with e; omega⟩ : wb.heap.size ≤ g ∧ some w.heap.size ≠ some g))).same hb.size (fun g hg _ => hb.block g hg)
theorem Es.own1 {wb w : World} {v : V} {p a : List ByteArray} {oc : Option V6} {g : Nat} {b2 : Option Nat} {oa : Option Sl} (h : Es wb v p a oc (some g) b2 none oa w) : w.ownsRow wb.heap.size 9 1 (.slice (some ⟨g, 0, none⟩) 0 0) 0 [] := by
  obtain ⟨h1, h2, h3⟩ := h.e1 g rfl
  exact ⟨rfl, .inr ⟨g, 0, #[], rfl, h1, h3 rfl, Nat.le_refl _, by decide, rfl, rfl⟩⟩
theorem Es.own2 {wb w : World} {v : V} {p a : List ByteArray} {oc : Option V6} {g : Nat} {b1 : Option Nat} {op : Option Sl} (h : Es wb v p a oc b1 (some g) op none w) : w.ownsRow wb.heap.size 9 1 (.slice (some ⟨g, 0, none⟩) 0 0) 0 [] := by
  obtain ⟨h1, h2, h3, _⟩ := h.e2 g rfl
  exact ⟨rfl, .inr ⟨g, 0, #[], rfl, h1, h3 rfl, Nat.le_refl _, by decide, rfl, rfl⟩⟩
theorem Es.app1 {wb w w' : World} {v : V} {p a : List ByteArray} {oc : Option V6} {g : Nat} {b2 : Option Nat} {s : Sl} (h : Es wb v p a oc (some g) b2 none none w) (hg : w.grownBy w' (some g)) (hown : w'.ownsRow wb.heap.size 9 1 s.val s.n (trows p).flatten) (hk : p.length ≤ 8796093022207)
    (hat : s.val.ownBlock = some g ∨ s.val.ownBlock = some w.heap.size) : Es wb v p a oc (some g) b2 (some s) none w' := by
  obtain ⟨g1, g2, g3⟩ := h.e1 g rfl
  have hb : ∀ k, k < w.heap.size → k ≠ g → w'.heap[k]? = w.heap[k]? := fun k hk hne => hg.block k hk (fun e => hne (Option.some.inj e))
  refine ⟨h.bel.trans ⟨hg.os, hg.tape, hg.output, hg.size, fun k hk => hb k (Nat.lt_of_lt_of_le hk h.bel.size) (by omega)⟩, ?_, ?_, ?_, ?_, by simp⟩
  · intro x e
    exact (h.rep x e).same hg.size (fun k hk hp => hb k hk (fun e => hp.2.1 (by rw [e])))
  · intro k e
    injection e with e
    subst e
    exact ⟨g1, Nat.lt_of_lt_of_le g2 hg.size, by simp⟩
  · intro k e
    obtain ⟨h1, h2, h3, h4⟩ := h.e2 k e
    exact ⟨h1, Nat.lt_of_lt_of_le h2 hg.size, fun e => (hb k h2 (fun e' => h4 (by rw [e']))).trans (h3 e), h4⟩
  · intro s' e
    injection e with e
    subst e
    obtain ⟨s2, hs2, hrow⟩ := RowB.of_own (K := 8796093022207) (l := trows p) hown (trows_len p) (by decide) (by simpa using hk)
    have : s2 = s := by
      obtain ⟨a1, a2, a3⟩ := s
      obtain ⟨c1, c2, c3⟩ := s2
      simp only [Sl.val] at hs2
      injection hs2 with e1 e2 e3
      have e2 : a2 = c2 := by simpa using e2
      have e3 : a3 = c3 := by simpa using e3
      rw [e1, e2, e3]
    subst this
    refine hrow.both (fun r hr hp => ⟨hp, fun e => ?_⟩)
    obtain ⟨h1, h2, h3, h4⟩ := h.e2 r e
    have ho : s2.val.ownBlock = some r := by simp [Sl.val, hr, Value.ownBlock]
    rcases hat with h | h
    · rw [ho] at h; exact h4 h.symm
    · rw [ho] at h; injection h with h; omega
theorem Es.app2 {wb w w' : World} {v : V} {p a : List ByteArray} {oc : Option V6} {g : Nat} {b1 : Option Nat} {s sp : Sl} (h : Es wb v p a oc b1 (some g) (some sp) none w) (hg : w.grownBy w' (some g)) (hown : w'.ownsRow wb.heap.size 9 1 s.val s.n (trows a).flatten) (hk : a.length ≤ 8796093022207) :
    Es wb v p a oc b1 (some g) (some sp) (some s) w' := by
  obtain ⟨g1, g2, g3, g4⟩ := h.e2 g rfl
  have hb : ∀ k, k < w.heap.size → k ≠ g → w'.heap[k]? = w.heap[k]? := fun k hk hne => hg.block k hk (fun e => hne (Option.some.inj e))
  refine ⟨h.bel.trans ⟨hg.os, hg.tape, hg.output, hg.size, fun k hk => hb k (Nat.lt_of_lt_of_le hk h.bel.size) (by omega)⟩, ?_, ?_, ?_, ?_, ?_⟩
  · intro x e
    exact (h.rep x e).same hg.size (fun k hk hp => hb k hk (fun e => hp.2.2 (by rw [e])))
  · intro k e
    obtain ⟨h1, h2, h3⟩ := h.e1 k e
    exact ⟨h1, Nat.lt_of_lt_of_le h2 hg.size, by simp⟩
  · intro k e
    injection e with e
    subst e
    exact ⟨g1, Nat.lt_of_lt_of_le g2 hg.size, by simp, g4⟩
  · intro s' e
    exact (h.rp s' e).same hg.size (fun k hk hp => hb k hk (fun e => hp.2 (by rw [e])))
  · intro s' e
    injection e with e
    subst e
    obtain ⟨s2, hs2, hrow⟩ := RowB.of_own (K := 8796093022207) (l := trows a) hown (trows_len a) (by decide) (by simpa using hk)
    have : s2 = s := by
      obtain ⟨a1, a2, a3⟩ := s
      obtain ⟨c1, c2, c3⟩ := s2
      simp only [Sl.val] at hs2
      injection hs2 with e1 e2 e3
      have e2 : a2 = c2 := by simpa using e2
      have e3 : a3 = c3 := by simpa using e3
      rw [e1, e2, e3]
    subst this
    exact hrow
theorem Es.done {wb w : World} {v : V} {p a : List ByteArray} {x : V6} {b1 b2 : Option Nat} {sp sa : Sl} (h : Es wb v p a (some x) b1 b2 (some sp) (some sa) w) (t : T16) : EvR w (fun g => wb.heap.size ≤ g) { t with content := x, prev := sp, auth := sa } v p a :=
  ⟨(h.rep x rfl).mono (fun g _ hp => hp.1), (h.rp sp rfl).mono (fun g _ hp => hp.1), h.ra sa rfl⟩
end Go.Proofs.YtgnoaeldmpbjmaaGreatDoor
/- enfiladelaw05.Real: an event of the document, anew, as the program's. -/
set_option linter.unusedVariables false
set_option linter.unusedSimpArgs false
namespace Go.Proofs.YtgnoaeldmpbjmaaGreatDoor
open Go.RowKit

theorem EvR.stored_at {w w' : World} {e : T16} {v : V} {p a : List ByteArray} {b c r : Nat} (h : EvR w (fun g => b ≤ g) e v p a) (hg : w.grownBy w' (some r)) (hr : r < b) (hc : c ≤ b) : EvR w' (fun g => c ≤ g) e v p a :=
  (h.same hg.size (fun g hgl hp => hg.block g hgl (fun e => by have := Option.some.inj e; omega))).mono (fun g _ hp => Nat.le_trans hc hp)
theorem stored_below {w w1 w' : World} {b r : Nat} (h : Below b w w1) (hg : w1.grownBy w' (some r)) (hr : b ≤ r) (hb : b ≤ w1.heap.size := by first | exact Below.size ‹_› | omega) : Below b w w' :=
  h.trans ((Fr.of_grown (S := fun i => i = r) hg (fun q e => (Option.some.inj e).symm)).to_below hb (fun k hk e => by omega))
theorem Holds.content {w : World} {b : Nat} {t : T16} (h : Holds w ⟨b, 0, none⟩ t.cells) : Holds w ⟨b, 6, none⟩ t.content.cells := fun j v hj => by
  have e2 : (⟨b, 6, none⟩ : Addr).add j = ⟨b, 6 + j, none⟩ := by unfold Addr.add; split <;> simp_all
  rw [e2]
  refine h.cell ?_
  match j, hj with
  | 0, hj => exact hj
  | 1, hj => exact hj
  | 2, hj => exact hj
  | 3, hj => exact hj
  | 4, hj => exact hj
  | 5, hj => exact hj
  | j + 6, hj =>
    have := (Array.getElem?_eq_some_iff.1 hj).1
    simp at this
    omega
set_option maxRecDepth 100000 in
set_option maxHeartbeats 8000000 in
theorem evreal_ok {w : World} {t : T16} {v : V} {p a : List ByteArray} (h : TIn w t v p a) : ∀ Wf, Below w.heap.size w Wf → Calls Tryz.prog 38 #[.agg t.cells] Wf fun e w' => ∃ (x : V6) (sp sa : Sl), e = .returned (.agg (T16.cells { t with content := x, prev := sp, auth := sa })) ∧ EvR w' (fun g => Wf.heap.size ≤ g) { t with content := x, prev := sp, auth := sa } v p a ∧ Below Wf.heap.size Wf w' := by
  intro Wf hbW
  have HTC := Lib.hid h.c
  have HK1 := Lib.hid (show p.length ≤ 8796093022207 by have := h.pr.2.1; simpa using this)
  have HK2 := Lib.hid (show a.length ≤ 8796093022207 by have := h.ar.2.1; simpa using this)
  have hn1 : t.prev.n ≤ 8796093022207 := by have := h.pr.1; have := h.pr.2.1; omega
  have hn2 : t.auth.n ≤ 8796093022207 := by have := h.ar.1; have := h.ar.2.1; omega
  obtain ⟨wb, hwb⟩ : ∃ wb : World, wb = (Wf.alloc (.cells t.cells 73)).alloc (.cells #[.string ⟨#[]⟩, .string ⟨#[]⟩, .string ⟨#[]⟩, .string ⟨#[]⟩, .string ⟨#[]⟩, .bool false, .int .i64 0, .bool false, .int .i64 0, .string ⟨#[]⟩, .slice none 0 0, .slice none 0 0, .int .i64 0, .int .i64 0, .slice none 0 0, .slice none 0 0] 97) := ⟨_, rfl⟩
  have hbb0 : Below Wf.heap.size Wf wb := by rw [hwb]; exact ((Below.refl _ _).alloc (Nat.le_refl _) _).alloc (by simp) _
  have hsz : wb.heap.size = Wf.heap.size + 2 := by rw [hwb]; simp
  have hbxl : Wf.heap.size < wb.heap.size := by omega
  have hle : Wf.heap.size ≤ wb.heap.size := by omega
  have hresl : Wf.heap.size + 1 < wb.heap.size := by omega
  have HBX := Lib.hid (show Holds wb ⟨Wf.heap.size, 0, none⟩ t.cells from Holds.of_block (by rw [hwb]; exact (heap_old_at _ _ _ (by simp)).trans (heap_new_at _ _ _ rfl)))
  have HRES := Lib.hid (show wb.heap[Wf.heap.size + 1]? = some (.cells #[.string ⟨#[]⟩, .string ⟨#[]⟩, .string ⟨#[]⟩, .string ⟨#[]⟩, .string ⟨#[]⟩, .bool false, .int .i64 0, .bool false, .int .i64 0, .string ⟨#[]⟩, .slice none 0 0, .slice none 0 0, .int .i64 0, .int .i64 0, .slice none 0 0, .slice none 0 0] 97 (0, 0)) by rw [hwb]; exact heap_new_at _ _ _ (by simp))
  have HBB0 := Lib.hid hbb0
  have HBB := Lib.hid (hbW.trans (hbb0.mono hbW.size))
  have HS1 := Lib.hid (fun (W' : World) (hW : Below wb.heap.size wb W') => (h.pr.below (HBB.out.trans (hW.mono HBB.out.size)) rfl).src h.pn)
  have HS2 := Lib.hid (fun (W' : World) (hW : Below wb.heap.size wb W') => (h.ar.below (HBB.out.trans (hW.mono HBB.out.size)) rfl).src h.an)
  have HWB := Lib.hid hwb
  obtain ⟨i0, hi, hz0, hz1, hz2⟩ := info_parts infoStr1
  have HI := Lib.hid hi
  have HZ0 := Lib.hid hz0
  have HZ1 := Lib.hid hz1
  have HZ2 := Lib.hid hz2
  clear h hbW hwb hbb0 hsz hi hz0 hz1 hz2
  go_enter Tryz.func38, Tryz.ntmps38
  go_upto_region 1 with fail
  rw [← HWB.out]
  refine wt_start (S := fun W => Below wb.heap.size wb W) 28 (by kernel_rfl) ⟨by kernel_rfl, by kernel_rfl, by kernel_rfl, by decide⟩ ?_
  intro HTK
  have HE0 := Lib.hid (Es.start wb v p a)
  obtain ⟨wd, hwd⟩ : ∃ wd : World, wd = wb.drew := ⟨_, rfl⟩
  rw [← hwd] at HE0 ⊢
  clear hwd
  refine wt_take (i := 0) (v := ?_) HTK.out rfl (by decide) (by kernel_rfl) (by kernel_rfl) (fun _ _ _ h => h) (by exact HE0.out.bel) (Or.inl ⟨by rfl, ?_⟩) ?_
  rotate_left
  · intro W hSw
    try dsimp only at hSw
    go_simp
    try (with_reducible rfl)
  try simp only [List.getElem_toArray, List.getElem_cons_zero, List.getElem_cons_succ, Act.put, List.setIfInBounds_toArray, List.set_cons_zero, List.set_cons_succ]
  refine wt_take (i := 1) (v := ?_) HTK.out rfl (by decide) (by kernel_rfl) (by kernel_rfl) (fun _ _ _ h => h) (by exact HE0.out.bel) (Or.inl ⟨by rfl, ?_⟩) ?_
  rotate_left
  · intro W hSw
    try dsimp only at hSw
    have q0 : W.cell? ⟨Wf.heap.size, 0, none⟩ = some (.string t.id) := (HBX.out.below hSw (by exact hbxl)).cell rfl
    go_simp
    try (with_reducible rfl)
  try simp only [List.getElem_toArray, List.getElem_cons_zero, List.getElem_cons_succ, Act.put, List.setIfInBounds_toArray, List.set_cons_zero, List.set_cons_succ]
  refine wt_take (i := 2) (v := ?_) HTK.out rfl (by decide) (by kernel_rfl) (by kernel_rfl) (fun _ _ _ h => h) (by exact HE0.out.bel) (Or.inl ⟨by rfl, ?_⟩) ?_
  rotate_left
  · intro W hSw
    try dsimp only at hSw
    go_simp
    try (with_reducible rfl)
  try simp only [List.getElem_toArray, List.getElem_cons_zero, List.getElem_cons_succ, Act.put, List.setIfInBounds_toArray, List.set_cons_zero, List.set_cons_succ]
  refine wt_take (i := 3) (v := ?_) HTK.out rfl (by decide) (by kernel_rfl) (by kernel_rfl) (fun _ _ _ h => h) (by exact HE0.out.bel) (Or.inl ⟨by rfl, ?_⟩) ?_
  rotate_left
  · intro W hSw
    try dsimp only at hSw
    have q0 : W.cell? ⟨Wf.heap.size, 1, none⟩ = some (.string t.room) := (HBX.out.below hSw (by exact hbxl)).cell rfl
    go_simp
    try (with_reducible rfl)
  try simp only [List.getElem_toArray, List.getElem_cons_zero, List.getElem_cons_succ, Act.put, List.setIfInBounds_toArray, List.set_cons_zero, List.set_cons_succ]
  refine wt_take (i := 4) (v := ?_) HTK.out rfl (by decide) (by kernel_rfl) (by kernel_rfl) (fun _ _ _ h => h) (by exact HE0.out.bel) (Or.inl ⟨by rfl, ?_⟩) ?_
  rotate_left
  · intro W hSw
    try dsimp only at hSw
    go_simp
    try (with_reducible rfl)
  try simp only [List.getElem_toArray, List.getElem_cons_zero, List.getElem_cons_succ, Act.put, List.setIfInBounds_toArray, List.set_cons_zero, List.set_cons_succ]
  refine wt_take (i := 5) (v := ?_) HTK.out rfl (by decide) (by kernel_rfl) (by kernel_rfl) (fun _ _ _ h => h) (by exact HE0.out.bel) (Or.inl ⟨by rfl, ?_⟩) ?_
  rotate_left
  · intro W hSw
    try dsimp only at hSw
    have q0 : W.cell? ⟨Wf.heap.size, 2, none⟩ = some (.string t.sender) := (HBX.out.below hSw (by exact hbxl)).cell rfl
    go_simp
    try (with_reducible rfl)
  try simp only [List.getElem_toArray, List.getElem_cons_zero, List.getElem_cons_succ, Act.put, List.setIfInBounds_toArray, List.set_cons_zero, List.set_cons_succ]
  refine wt_take (i := 6) (v := ?_) HTK.out rfl (by decide) (by kernel_rfl) (by kernel_rfl) (fun _ _ _ h => h) (by exact HE0.out.bel) (Or.inl ⟨by rfl, ?_⟩) ?_
  rotate_left
  · intro W hSw
    try dsimp only at hSw
    go_simp
    try (with_reducible rfl)
  try simp only [List.getElem_toArray, List.getElem_cons_zero, List.getElem_cons_succ, Act.put, List.setIfInBounds_toArray, List.set_cons_zero, List.set_cons_succ]
  refine wt_take (i := 7) (v := ?_) HTK.out rfl (by decide) (by kernel_rfl) (by kernel_rfl) (fun _ _ _ h => h) (by exact HE0.out.bel) (Or.inl ⟨by rfl, ?_⟩) ?_
  rotate_left
  · intro W hSw
    try dsimp only at hSw
    have q0 : W.cell? ⟨Wf.heap.size, 3, none⟩ = some (.string t.typ) := (HBX.out.below hSw (by exact hbxl)).cell rfl
    go_simp
    try (with_reducible rfl)
  try simp only [List.getElem_toArray, List.getElem_cons_zero, List.getElem_cons_succ, Act.put, List.setIfInBounds_toArray, List.set_cons_zero, List.set_cons_succ]
  refine wt_take (i := 8) (v := ?_) HTK.out rfl (by decide) (by kernel_rfl) (by kernel_rfl) (fun _ _ _ h => h) (by exact HE0.out.bel) (Or.inl ⟨by rfl, ?_⟩) ?_
  rotate_left
  · intro W hSw
    try dsimp only at hSw
    go_simp
    try (with_reducible rfl)
  try simp only [List.getElem_toArray, List.getElem_cons_zero, List.getElem_cons_succ, Act.put, List.setIfInBounds_toArray, List.set_cons_zero, List.set_cons_succ]
  refine wt_take (i := 9) (v := ?_) HTK.out rfl (by decide) (by kernel_rfl) (by kernel_rfl) (fun _ _ _ h => h) (by exact HE0.out.bel) (Or.inl ⟨by rfl, ?_⟩) ?_
  rotate_left
  · intro W hSw
    try dsimp only at hSw
    have q0 : W.cell? ⟨Wf.heap.size, 4, none⟩ = some (.string t.key) := (HBX.out.below hSw (by exact hbxl)).cell rfl
    go_simp
    try (with_reducible rfl)
  try simp only [List.getElem_toArray, List.getElem_cons_zero, List.getElem_cons_succ, Act.put, List.setIfInBounds_toArray, List.set_cons_zero, List.set_cons_succ]
  refine wt_take (i := 10) (v := ?_) HTK.out rfl (by decide) (by kernel_rfl) (by kernel_rfl) (fun _ _ _ h => h) (by exact HE0.out.bel) (Or.inl ⟨by rfl, ?_⟩) ?_
  rotate_left
  · intro W hSw
    try dsimp only at hSw
    go_simp
    try (with_reducible rfl)
  try simp only [List.getElem_toArray, List.getElem_cons_zero, List.getElem_cons_succ, Act.put, List.setIfInBounds_toArray, List.set_cons_zero, List.set_cons_succ]
  refine wt_take (i := 11) (v := ?_) HTK.out rfl (by decide) (by kernel_rfl) (by kernel_rfl) (fun _ _ _ h => h) (by exact HE0.out.bel) (Or.inl ⟨by rfl, ?_⟩) ?_
  rotate_left
  · intro W hSw
    try dsimp only at hSw
    have q0 : W.cell? ⟨Wf.heap.size, 5, none⟩ = some (.bool t.state) := (HBX.out.below hSw (by exact hbxl)).cell rfl
    go_simp
    try (with_reducible rfl)
  try simp only [List.getElem_toArray, List.getElem_cons_zero, List.getElem_cons_succ, Act.put, List.setIfInBounds_toArray, List.set_cons_zero, List.set_cons_succ]
  refine wt_take (i := 12) (v := ?_) HTK.out rfl (by decide) (by kernel_rfl) (by kernel_rfl) (fun _ _ _ h => h) (by exact HE0.out.bel) (Or.inl ⟨by rfl, ?_⟩) ?_
  rotate_left
  · intro W hSw
    try dsimp only at hSw
    go_simp
    try (with_reducible rfl)
  try simp only [List.getElem_toArray, List.getElem_cons_zero, List.getElem_cons_succ, Act.put, List.setIfInBounds_toArray, List.set_cons_zero, List.set_cons_succ]
  refine wt_take (i := 13) (v := .agg t.content.cells) HTK.out rfl (by decide) (by kernel_rfl) (by kernel_rfl) (fun _ _ _ h => h) (by exact HE0.out.bel) (yieldsIf_load_at (by rfl) _ _ (by rfl) _ (by rfl) t.content.cells _ (fun W hSw => (HBX.out.below hSw (by exact hbxl)).content) Tryz.underlying71 (by rfl) (sizeV6 _)) ?_
  try simp only [List.getElem_toArray, List.getElem_cons_zero, List.getElem_cons_succ, Act.put, List.setIfInBounds_toArray, List.set_cons_zero, List.set_cons_succ]
  refine wt_take (i := 15) (v := ?_) HTK.out rfl (by decide) (by kernel_rfl) (by kernel_rfl) (fun _ _ _ h => h) (by exact HE0.out.bel) (Or.inl ⟨by rfl, ?_⟩) ?_
  rotate_left
  · intro W hSw
    try dsimp only at hSw
    go_simp
    try (with_reducible rfl)
  try simp only [List.getElem_toArray, List.getElem_cons_zero, List.getElem_cons_succ, Act.put, List.setIfInBounds_toArray, List.set_cons_zero, List.set_cons_succ]
  refine wt_take (i := 16) (v := ?_) HTK.out rfl (by decide) (by kernel_rfl) (by kernel_rfl) (fun _ _ _ h => h) (by exact HE0.out.bel) (Or.inl ⟨by rfl, ?_⟩) ?_
  rotate_left
  · intro W hSw
    try dsimp only at hSw
    have q0 : W.cell? ⟨Wf.heap.size, 12, none⟩ = some (.int .i64 t.ts) := (HBX.out.below hSw (by exact hbxl)).cell rfl
    go_simp
    try (with_reducible rfl)
  try simp only [List.getElem_toArray, List.getElem_cons_zero, List.getElem_cons_succ, Act.put, List.setIfInBounds_toArray, List.set_cons_zero, List.set_cons_succ]
  refine wt_take (i := 17) (v := ?_) HTK.out rfl (by decide) (by kernel_rfl) (by kernel_rfl) (fun _ _ _ h => h) (by exact HE0.out.bel) (Or.inl ⟨by rfl, ?_⟩) ?_
  rotate_left
  · intro W hSw
    try dsimp only at hSw
    go_simp
    try (with_reducible rfl)
  try simp only [List.getElem_toArray, List.getElem_cons_zero, List.getElem_cons_succ, Act.put, List.setIfInBounds_toArray, List.set_cons_zero, List.set_cons_succ]
  refine wt_take (i := 18) (v := ?_) HTK.out rfl (by decide) (by kernel_rfl) (by kernel_rfl) (fun _ _ _ h => h) (by exact HE0.out.bel) (Or.inl ⟨by rfl, ?_⟩) ?_
  rotate_left
  · intro W hSw
    try dsimp only at hSw
    have q0 : W.cell? ⟨Wf.heap.size, 13, none⟩ = some (.int .i64 t.depth) := (HBX.out.below hSw (by exact hbxl)).cell rfl
    go_simp
    try (with_reducible rfl)
  try simp only [List.getElem_toArray, List.getElem_cons_zero, List.getElem_cons_succ, Act.put, List.setIfInBounds_toArray, List.set_cons_zero, List.set_cons_succ]
  refine wt_take (i := 20) (v := ?_) HTK.out rfl (by decide) (by kernel_rfl) (by kernel_rfl) (fun _ _ _ h => h) (by exact HE0.out.bel) (Or.inl ⟨by rfl, ?_⟩) ?_
  rotate_left
  · intro W hSw
    try dsimp only at hSw
    go_simp
    try (with_reducible rfl)
  try simp only [List.getElem_toArray, List.getElem_cons_zero, List.getElem_cons_succ, Act.put, List.setIfInBounds_toArray, List.set_cons_zero, List.set_cons_succ]
  refine wt_take (i := 21) (v := ?_) HTK.out rfl (by decide) (by kernel_rfl) (by kernel_rfl) (fun _ _ _ h => h) (by exact HE0.out.bel) (Or.inl ⟨by rfl, ?_⟩) ?_
  rotate_left
  · intro W hSw
    try dsimp only at hSw
    have q0 : W.cell? ⟨Wf.heap.size, 14, none⟩ = some (.slice t.prev.a t.prev.n t.prev.c) := (HBX.out.below hSw (by exact hbxl)).cell rfl
    go_simp
    try (with_reducible rfl)
  try simp only [List.getElem_toArray, List.getElem_cons_zero, List.getElem_cons_succ, Act.put, List.setIfInBounds_toArray, List.set_cons_zero, List.set_cons_succ]
  refine wt_take (i := 24) (v := ?_) HTK.out rfl (by decide) (by kernel_rfl) (by kernel_rfl) (fun _ _ _ h => h) (by exact HE0.out.bel) (Or.inl ⟨by rfl, ?_⟩) ?_
  rotate_left
  · intro W hSw
    try dsimp only at hSw
    go_simp
    try (with_reducible rfl)
  try simp only [List.getElem_toArray, List.getElem_cons_zero, List.getElem_cons_succ, Act.put, List.setIfInBounds_toArray, List.set_cons_zero, List.set_cons_succ]
  refine wt_take (i := 25) (v := ?_) HTK.out rfl (by decide) (by kernel_rfl) (by kernel_rfl) (fun _ _ _ h => h) (by exact HE0.out.bel) (Or.inl ⟨by rfl, ?_⟩) ?_
  rotate_left
  · intro W hSw
    try dsimp only at hSw
    have q0 : W.cell? ⟨Wf.heap.size, 15, none⟩ = some (.slice t.auth.a t.auth.n t.auth.c) := (HBX.out.below hSw (by exact hbxl)).cell rfl
    go_simp
    try (with_reducible rfl)
  try simp only [List.getElem_toArray, List.getElem_cons_zero, List.getElem_cons_succ, Act.put, List.setIfInBounds_toArray, List.set_cons_zero, List.set_cons_succ]
  refine wt_ready (rs := [14, 19, 23]) (by kernel_rfl) (by simp) ?_
  refine AllT.cons rfl (by decide) (fun K hK => ?_) ?_
  · go_simp
    go_at_call 64
    refine (real_ok HTC.out _ (HBB.out.trans (HE0.out.bel.mono HBB.out.size))).mono ?_
    rintro e wv ⟨x', rfl, hrep, hbz⟩
    have HE1 := Lib.hid (Es.call HE0.out hbz hrep)
    clear hrep hbz
    refine hK.out _ _ (by exact HE1.out.bel) ?_
    clear hK K
    try simp only [List.getElem_toArray, List.getElem_cons_zero, List.getElem_cons_succ, Act.put, List.setIfInBounds_toArray, List.set_cons_zero, List.set_cons_succ]
    refine wt_ready (rs := [19, 23]) (by kernel_rfl) (by simp) ?_
    refine AllT.cons rfl (by decide) (fun K hK => ?_) ?_
    · go_simp
      have HE2 := Lib.hid (HE1.out.new1)
      obtain ⟨wn1, hwn⟩ : ∃ wn : World, wn = World.alloc wv (.cells #[] 9) := ⟨_, rfl⟩
      rw [← hwn] at HE2 ⊢
      clear hwn
      refine hK.out _ _ (by exact HE2.out.bel) ?_
      clear hK K
      try simp only [List.getElem_toArray, List.getElem_cons_zero, List.getElem_cons_succ, Act.put, List.setIfInBounds_toArray, List.set_cons_zero, List.set_cons_succ]
      refine wt_ready (rs := [22, 23]) (by kernel_rfl) (by simp) ?_
      refine AllT.cons rfl (by decide) (fun K hK => ?_) ?_
      · refine step_append_src _ (by rfl) _ _ _ (by rfl) wb.heap.size 9 i0 _ 1 16 Tryz.underlying62 HI.out HZ0.out HZ1.out HZ2.out rfl (by omega) _ 0 [] (by rfl) HE2.out.own1 t.prev.a t.prev.n t.prev.c (trows p) (by rfl) (HS1.out _ HE2.out.bel) (by unfold maxLen; omega) (by omega) HE2.out.bel.size ?_
        intro a1 c1 ws1 hown hg hat
        simp only [Nat.zero_add, List.nil_append] at hown hat ⊢
        have HE3 := Lib.hid (HE2.out.app1 (s := ⟨a1, t.prev.n, c1⟩) hg hown HK1.out hat)
        clear hown hg hat
        refine hK.out _ _ (by exact HE3.out.bel) ?_
        clear hK K
        try simp only [List.getElem_toArray, List.getElem_cons_zero, List.getElem_cons_succ, Act.put, List.setIfInBounds_toArray, List.set_cons_zero, List.set_cons_succ]
        refine wt_ready (rs := [23]) (by kernel_rfl) (by simp) ?_
        refine AllT.cons rfl (by decide) (fun K hK => ?_) ?_
        · go_simp
          have HE4 := Lib.hid (HE3.out.new2)
          obtain ⟨wn3, hwn⟩ : ∃ wn : World, wn = World.alloc ws1 (.cells #[] 9) := ⟨_, rfl⟩
          rw [← hwn] at HE4 ⊢
          clear hwn
          refine hK.out _ _ (by exact HE4.out.bel) ?_
          clear hK K
          try simp only [List.getElem_toArray, List.getElem_cons_zero, List.getElem_cons_succ, Act.put, List.setIfInBounds_toArray, List.set_cons_zero, List.set_cons_succ]
          refine wt_ready (rs := [26]) (by kernel_rfl) (by simp) ?_
          refine AllT.cons rfl (by decide) (fun K hK => ?_) ?_
          · refine step_append_src _ (by rfl) _ _ _ (by rfl) wb.heap.size 9 i0 _ 1 16 Tryz.underlying62 HI.out HZ0.out HZ1.out HZ2.out rfl (by omega) _ 0 [] (by rfl) HE4.out.own2 t.auth.a t.auth.n t.auth.c (trows a) (by rfl) (HS2.out _ HE4.out.bel) (by unfold maxLen; omega) (by omega) HE4.out.bel.size ?_
            intro a2 c2 ws2 hown hg hat
            simp only [Nat.zero_add, List.nil_append] at hown hat ⊢
            have HE5 := Lib.hid (HE4.out.app2 (s := ⟨a2, t.auth.n, c2⟩) hg hown HK2.out)
            clear hown hg hat
            refine hK.out _ _ (by exact HE5.out.bel) ?_
            clear hK K
            try simp only [List.getElem_toArray, List.getElem_cons_zero, List.getElem_cons_succ, Act.put, List.setIfInBounds_toArray, List.set_cons_zero, List.set_cons_succ]
            refine wt_take (i := 27) (v := ?_) HTK.out rfl (by decide) (by kernel_rfl) (by kernel_rfl) (fun _ _ _ h => h) (by exact HE5.out.bel) (Or.inl ⟨by rfl, ?_⟩) ?_
            rotate_left
            · intro W hSw
              try dsimp only at hSw
              go_simp
              try (with_reducible rfl)
            try simp only [List.getElem_toArray, List.getElem_cons_zero, List.getElem_cons_succ, Act.put, List.setIfInBounds_toArray, List.set_cons_zero, List.set_cons_succ]
            refine wt_last (k := 28) (by kernel_rfl) (by kernel_rfl) (by decide) rfl (fun K hK => ?_)
            obtain ⟨e, he⟩ : ∃ e : T16, e = { t with content := x', prev := ⟨a1, t.prev.n, c1⟩, auth := ⟨a2, t.auth.n, c2⟩ } := ⟨_, rfl⟩
            have HEV := Lib.hid (show EvR ws2 (fun g => wb.heap.size ≤ g) e v p a by rw [he]; exact HE5.out.done t)
            have HBF := Lib.hid (HBB0.out.trans (HE5.out.bel.mono HBB0.out.size))
            have HRS := Lib.hid ((HE5.out.bel.block _ hresl).trans HRES.out)
            refine step_store_at (by rfl) _ _ _ (by rfl) (Wf.heap.size + 1) e.cells (by rfl) (by rw [he]; rfl) (there_of_block HRS.out rfl) (sizeE _) (t16_all _) ?_
            obtain ⟨wz, hwz⟩ : ∃ wz : World, wz = World.setCells ws2 (Wf.heap.size + 1) 0 e.cells.toList := ⟨_, rfl⟩
            rw [← hwz]
            have HFIN := Lib.hid (show wz.heap[Wf.heap.size + 1]? = some (.cells e.cells 97 (0, 0)) by rw [hwz]; exact setCells_whole (cs := e.cells) HRS.out rfl)
            have HG := Lib.hid (show World.grownBy ws2 wz (some (Wf.heap.size + 1)) by rw [hwz]; exact setCells_grown (Wf.heap.size + 1) e.cells.toList 0 ws2)
            clear hwz
            refine hK.out _ _ ?_
            clear hK K
            try simp only [List.getElem_toArray, List.getElem_cons_zero, List.getElem_cons_succ, Act.put, List.setIfInBounds_toArray, List.set_cons_zero, List.set_cons_succ]
            go_wp2_with fail
            have hev2 : EvR wz (fun g => Wf.heap.size ≤ g) e v p a := HEV.out.stored_at HG.out hresl hle
            have hbf2 : Below Wf.heap.size Wf wz := stored_below HBF.out HG.out (Nat.le_succ _) HBF.out.size
            have HEQ := Lib.hid he
            clear he
            refine bodyPost_ret (results_cell_row rfl _ _ (Wf.heap.size + 1) 97 e.cells (0, 0) _ rfl HFIN.out Tryz.underlying97 rfl (sizeE _)) rfl ?_
            have he := HEQ.out
            subst he
            exact ⟨x', ⟨a1, t.prev.n, c1⟩, ⟨a2, t.auth.n, c2⟩, rfl, hev2, hbf2⟩
          exact AllT.nil
        exact AllT.nil
      refine AllT.cons rfl (by decide) (fun K hK => ?_) ?_
      · go_simp
        have HE3 := Lib.hid (HE2.out.new2)
        obtain ⟨wn2, hwn⟩ : ∃ wn : World, wn = World.alloc wn1 (.cells #[] 9) := ⟨_, rfl⟩
        rw [← hwn] at HE3 ⊢
        clear hwn
        refine hK.out _ _ (by exact HE3.out.bel) ?_
        clear hK K
        try simp only [List.getElem_toArray, List.getElem_cons_zero, List.getElem_cons_succ, Act.put, List.setIfInBounds_toArray, List.set_cons_zero, List.set_cons_succ]
        refine wt_ready (rs := [22]) (by kernel_rfl) (by simp) ?_
        refine AllT.cons rfl (by decide) (fun K hK => ?_) ?_
        · refine step_append_src _ (by rfl) _ _ _ (by rfl) wb.heap.size 9 i0 _ 1 16 Tryz.underlying62 HI.out HZ0.out HZ1.out HZ2.out rfl (by omega) _ 0 [] (by rfl) HE3.out.own1 t.prev.a t.prev.n t.prev.c (trows p) (by rfl) (HS1.out _ HE3.out.bel) (by unfold maxLen; omega) (by omega) HE3.out.bel.size ?_
          intro a1 c1 ws1 hown hg hat
          simp only [Nat.zero_add, List.nil_append] at hown hat ⊢
          have HE4 := Lib.hid (HE3.out.app1 (s := ⟨a1, t.prev.n, c1⟩) hg hown HK1.out hat)
          clear hown hg hat
          refine hK.out _ _ (by exact HE4.out.bel) ?_
          clear hK K
          try simp only [List.getElem_toArray, List.getElem_cons_zero, List.getElem_cons_succ, Act.put, List.setIfInBounds_toArray, List.set_cons_zero, List.set_cons_succ]
          refine wt_ready (rs := [26]) (by kernel_rfl) (by simp) ?_
          refine AllT.cons rfl (by decide) (fun K hK => ?_) ?_
          · refine step_append_src _ (by rfl) _ _ _ (by rfl) wb.heap.size 9 i0 _ 1 16 Tryz.underlying62 HI.out HZ0.out HZ1.out HZ2.out rfl (by omega) _ 0 [] (by rfl) HE4.out.own2 t.auth.a t.auth.n t.auth.c (trows a) (by rfl) (HS2.out _ HE4.out.bel) (by unfold maxLen; omega) (by omega) HE4.out.bel.size ?_
            intro a2 c2 ws2 hown hg hat
            simp only [Nat.zero_add, List.nil_append] at hown hat ⊢
            have HE5 := Lib.hid (HE4.out.app2 (s := ⟨a2, t.auth.n, c2⟩) hg hown HK2.out)
            clear hown hg hat
            refine hK.out _ _ (by exact HE5.out.bel) ?_
            clear hK K
            try simp only [List.getElem_toArray, List.getElem_cons_zero, List.getElem_cons_succ, Act.put, List.setIfInBounds_toArray, List.set_cons_zero, List.set_cons_succ]
            refine wt_take (i := 27) (v := ?_) HTK.out rfl (by decide) (by kernel_rfl) (by kernel_rfl) (fun _ _ _ h => h) (by exact HE5.out.bel) (Or.inl ⟨by rfl, ?_⟩) ?_
            rotate_left
            · intro W hSw
              try dsimp only at hSw
              go_simp
              try (with_reducible rfl)
            try simp only [List.getElem_toArray, List.getElem_cons_zero, List.getElem_cons_succ, Act.put, List.setIfInBounds_toArray, List.set_cons_zero, List.set_cons_succ]
            refine wt_last (k := 28) (by kernel_rfl) (by kernel_rfl) (by decide) rfl (fun K hK => ?_)
            obtain ⟨e, he⟩ : ∃ e : T16, e = { t with content := x', prev := ⟨a1, t.prev.n, c1⟩, auth := ⟨a2, t.auth.n, c2⟩ } := ⟨_, rfl⟩
            have HEV := Lib.hid (show EvR ws2 (fun g => wb.heap.size ≤ g) e v p a by rw [he]; exact HE5.out.done t)
            have HBF := Lib.hid (HBB0.out.trans (HE5.out.bel.mono HBB0.out.size))
            have HRS := Lib.hid ((HE5.out.bel.block _ hresl).trans HRES.out)
            refine step_store_at (by rfl) _ _ _ (by rfl) (Wf.heap.size + 1) e.cells (by rfl) (by rw [he]; rfl) (there_of_block HRS.out rfl) (sizeE _) (t16_all _) ?_
            obtain ⟨wz, hwz⟩ : ∃ wz : World, wz = World.setCells ws2 (Wf.heap.size + 1) 0 e.cells.toList := ⟨_, rfl⟩
            rw [← hwz]
            have HFIN := Lib.hid (show wz.heap[Wf.heap.size + 1]? = some (.cells e.cells 97 (0, 0)) by rw [hwz]; exact setCells_whole (cs := e.cells) HRS.out rfl)
            have HG := Lib.hid (show World.grownBy ws2 wz (some (Wf.heap.size + 1)) by rw [hwz]; exact setCells_grown (Wf.heap.size + 1) e.cells.toList 0 ws2)
            clear hwz
            refine hK.out _ _ ?_
            clear hK K
            try simp only [List.getElem_toArray, List.getElem_cons_zero, List.getElem_cons_succ, Act.put, List.setIfInBounds_toArray, List.set_cons_zero, List.set_cons_succ]
            go_wp2_with fail
            have hev2 : EvR wz (fun g => Wf.heap.size ≤ g) e v p a := HEV.out.stored_at HG.out hresl hle
            have hbf2 : Below Wf.heap.size Wf wz := stored_below HBF.out HG.out (Nat.le_succ _) HBF.out.size
            have HEQ := Lib.hid he
            clear he
            refine bodyPost_ret (results_cell_row rfl _ _ (Wf.heap.size + 1) 97 e.cells (0, 0) _ rfl HFIN.out Tryz.underlying97 rfl (sizeE _)) rfl ?_
            have he := HEQ.out
            subst he
            exact ⟨x', ⟨a1, t.prev.n, c1⟩, ⟨a2, t.auth.n, c2⟩, rfl, hev2, hbf2⟩
          exact AllT.nil
        exact AllT.nil
      exact AllT.nil
    refine AllT.cons rfl (by decide) (fun K hK => ?_) ?_
    · go_simp
      have HE2 := Lib.hid (HE1.out.new2)
      obtain ⟨wn1, hwn⟩ : ∃ wn : World, wn = World.alloc wv (.cells #[] 9) := ⟨_, rfl⟩
      rw [← hwn] at HE2 ⊢
      clear hwn
      refine hK.out _ _ (by exact HE2.out.bel) ?_
      clear hK K
      try simp only [List.getElem_toArray, List.getElem_cons_zero, List.getElem_cons_succ, Act.put, List.setIfInBounds_toArray, List.set_cons_zero, List.set_cons_succ]
      refine wt_ready (rs := [19]) (by kernel_rfl) (by simp) ?_
      refine AllT.cons rfl (by decide) (fun K hK => ?_) ?_
      · go_simp
        have HE3 := Lib.hid (HE2.out.new1)
        obtain ⟨wn2, hwn⟩ : ∃ wn : World, wn = World.alloc wn1 (.cells #[] 9) := ⟨_, rfl⟩
        rw [← hwn] at HE3 ⊢
        clear hwn
        refine hK.out _ _ (by exact HE3.out.bel) ?_
        clear hK K
        try simp only [List.getElem_toArray, List.getElem_cons_zero, List.getElem_cons_succ, Act.put, List.setIfInBounds_toArray, List.set_cons_zero, List.set_cons_succ]
        refine wt_ready (rs := [22]) (by kernel_rfl) (by simp) ?_
        refine AllT.cons rfl (by decide) (fun K hK => ?_) ?_
        · refine step_append_src _ (by rfl) _ _ _ (by rfl) wb.heap.size 9 i0 _ 1 16 Tryz.underlying62 HI.out HZ0.out HZ1.out HZ2.out rfl (by omega) _ 0 [] (by rfl) HE3.out.own1 t.prev.a t.prev.n t.prev.c (trows p) (by rfl) (HS1.out _ HE3.out.bel) (by unfold maxLen; omega) (by omega) HE3.out.bel.size ?_
          intro a1 c1 ws1 hown hg hat
          simp only [Nat.zero_add, List.nil_append] at hown hat ⊢
          have HE4 := Lib.hid (HE3.out.app1 (s := ⟨a1, t.prev.n, c1⟩) hg hown HK1.out hat)
          clear hown hg hat
          refine hK.out _ _ (by exact HE4.out.bel) ?_
          clear hK K
          try simp only [List.getElem_toArray, List.getElem_cons_zero, List.getElem_cons_succ, Act.put, List.setIfInBounds_toArray, List.set_cons_zero, List.set_cons_succ]
          refine wt_ready (rs := [26]) (by kernel_rfl) (by simp) ?_
          refine AllT.cons rfl (by decide) (fun K hK => ?_) ?_
          · refine step_append_src _ (by rfl) _ _ _ (by rfl) wb.heap.size 9 i0 _ 1 16 Tryz.underlying62 HI.out HZ0.out HZ1.out HZ2.out rfl (by omega) _ 0 [] (by rfl) HE4.out.own2 t.auth.a t.auth.n t.auth.c (trows a) (by rfl) (HS2.out _ HE4.out.bel) (by unfold maxLen; omega) (by omega) HE4.out.bel.size ?_
            intro a2 c2 ws2 hown hg hat
            simp only [Nat.zero_add, List.nil_append] at hown hat ⊢
            have HE5 := Lib.hid (HE4.out.app2 (s := ⟨a2, t.auth.n, c2⟩) hg hown HK2.out)
            clear hown hg hat
            refine hK.out _ _ (by exact HE5.out.bel) ?_
            clear hK K
            try simp only [List.getElem_toArray, List.getElem_cons_zero, List.getElem_cons_succ, Act.put, List.setIfInBounds_toArray, List.set_cons_zero, List.set_cons_succ]
            refine wt_take (i := 27) (v := ?_) HTK.out rfl (by decide) (by kernel_rfl) (by kernel_rfl) (fun _ _ _ h => h) (by exact HE5.out.bel) (Or.inl ⟨by rfl, ?_⟩) ?_
            rotate_left
            · intro W hSw
              try dsimp only at hSw
              go_simp
              try (with_reducible rfl)
            try simp only [List.getElem_toArray, List.getElem_cons_zero, List.getElem_cons_succ, Act.put, List.setIfInBounds_toArray, List.set_cons_zero, List.set_cons_succ]
            refine wt_last (k := 28) (by kernel_rfl) (by kernel_rfl) (by decide) rfl (fun K hK => ?_)
            obtain ⟨e, he⟩ : ∃ e : T16, e = { t with content := x', prev := ⟨a1, t.prev.n, c1⟩, auth := ⟨a2, t.auth.n, c2⟩ } := ⟨_, rfl⟩
            have HEV := Lib.hid (show EvR ws2 (fun g => wb.heap.size ≤ g) e v p a by rw [he]; exact HE5.out.done t)
            have HBF := Lib.hid (HBB0.out.trans (HE5.out.bel.mono HBB0.out.size))
            have HRS := Lib.hid ((HE5.out.bel.block _ hresl).trans HRES.out)
            refine step_store_at (by rfl) _ _ _ (by rfl) (Wf.heap.size + 1) e.cells (by rfl) (by rw [he]; rfl) (there_of_block HRS.out rfl) (sizeE _) (t16_all _) ?_
            obtain ⟨wz, hwz⟩ : ∃ wz : World, wz = World.setCells ws2 (Wf.heap.size + 1) 0 e.cells.toList := ⟨_, rfl⟩
            rw [← hwz]
            have HFIN := Lib.hid (show wz.heap[Wf.heap.size + 1]? = some (.cells e.cells 97 (0, 0)) by rw [hwz]; exact setCells_whole (cs := e.cells) HRS.out rfl)
            have HG := Lib.hid (show World.grownBy ws2 wz (some (Wf.heap.size + 1)) by rw [hwz]; exact setCells_grown (Wf.heap.size + 1) e.cells.toList 0 ws2)
            clear hwz
            refine hK.out _ _ ?_
            clear hK K
            try simp only [List.getElem_toArray, List.getElem_cons_zero, List.getElem_cons_succ, Act.put, List.setIfInBounds_toArray, List.set_cons_zero, List.set_cons_succ]
            go_wp2_with fail
            have hev2 : EvR wz (fun g => Wf.heap.size ≤ g) e v p a := HEV.out.stored_at HG.out hresl hle
            have hbf2 : Below Wf.heap.size Wf wz := stored_below HBF.out HG.out (Nat.le_succ _) HBF.out.size
            have HEQ := Lib.hid he
            clear he
            refine bodyPost_ret (results_cell_row rfl _ _ (Wf.heap.size + 1) 97 e.cells (0, 0) _ rfl HFIN.out Tryz.underlying97 rfl (sizeE _)) rfl ?_
            have he := HEQ.out
            subst he
            exact ⟨x', ⟨a1, t.prev.n, c1⟩, ⟨a2, t.auth.n, c2⟩, rfl, hev2, hbf2⟩
          exact AllT.nil
        exact AllT.nil
      exact AllT.nil
    exact AllT.nil
  refine AllT.cons rfl (by decide) (fun K hK => ?_) ?_
  · go_simp
    have HE1 := Lib.hid (HE0.out.new1)
    obtain ⟨wn0, hwn⟩ : ∃ wn : World, wn = World.alloc wd (.cells #[] 9) := ⟨_, rfl⟩
    rw [← hwn] at HE1 ⊢
    clear hwn
    refine hK.out _ _ (by exact HE1.out.bel) ?_
    clear hK K
    try simp only [List.getElem_toArray, List.getElem_cons_zero, List.getElem_cons_succ, Act.put, List.setIfInBounds_toArray, List.set_cons_zero, List.set_cons_succ]
    refine wt_ready (rs := [14, 23]) (by kernel_rfl) (by simp) ?_
    refine AllT.cons rfl (by decide) (fun K hK => ?_) ?_
    · go_simp
      go_at_call 64
      refine (real_ok HTC.out _ (HBB.out.trans (HE1.out.bel.mono HBB.out.size))).mono ?_
      rintro e wv ⟨x', rfl, hrep, hbz⟩
      have HE2 := Lib.hid (Es.call HE1.out hbz hrep)
      clear hrep hbz
      refine hK.out _ _ (by exact HE2.out.bel) ?_
      clear hK K
      try simp only [List.getElem_toArray, List.getElem_cons_zero, List.getElem_cons_succ, Act.put, List.setIfInBounds_toArray, List.set_cons_zero, List.set_cons_succ]
      refine wt_ready (rs := [22, 23]) (by kernel_rfl) (by simp) ?_
      refine AllT.cons rfl (by decide) (fun K hK => ?_) ?_
      · refine step_append_src _ (by rfl) _ _ _ (by rfl) wb.heap.size 9 i0 _ 1 16 Tryz.underlying62 HI.out HZ0.out HZ1.out HZ2.out rfl (by omega) _ 0 [] (by rfl) HE2.out.own1 t.prev.a t.prev.n t.prev.c (trows p) (by rfl) (HS1.out _ HE2.out.bel) (by unfold maxLen; omega) (by omega) HE2.out.bel.size ?_
        intro a1 c1 ws1 hown hg hat
        simp only [Nat.zero_add, List.nil_append] at hown hat ⊢
        have HE3 := Lib.hid (HE2.out.app1 (s := ⟨a1, t.prev.n, c1⟩) hg hown HK1.out hat)
        clear hown hg hat
        refine hK.out _ _ (by exact HE3.out.bel) ?_
        clear hK K
        try simp only [List.getElem_toArray, List.getElem_cons_zero, List.getElem_cons_succ, Act.put, List.setIfInBounds_toArray, List.set_cons_zero, List.set_cons_succ]
        refine wt_ready (rs := [23]) (by kernel_rfl) (by simp) ?_
        refine AllT.cons rfl (by decide) (fun K hK => ?_) ?_
        · go_simp
          have HE4 := Lib.hid (HE3.out.new2)
          obtain ⟨wn3, hwn⟩ : ∃ wn : World, wn = World.alloc ws1 (.cells #[] 9) := ⟨_, rfl⟩
          rw [← hwn] at HE4 ⊢
          clear hwn
          refine hK.out _ _ (by exact HE4.out.bel) ?_
          clear hK K
          try simp only [List.getElem_toArray, List.getElem_cons_zero, List.getElem_cons_succ, Act.put, List.setIfInBounds_toArray, List.set_cons_zero, List.set_cons_succ]
          refine wt_ready (rs := [26]) (by kernel_rfl) (by simp) ?_
          refine AllT.cons rfl (by decide) (fun K hK => ?_) ?_
          · refine step_append_src _ (by rfl) _ _ _ (by rfl) wb.heap.size 9 i0 _ 1 16 Tryz.underlying62 HI.out HZ0.out HZ1.out HZ2.out rfl (by omega) _ 0 [] (by rfl) HE4.out.own2 t.auth.a t.auth.n t.auth.c (trows a) (by rfl) (HS2.out _ HE4.out.bel) (by unfold maxLen; omega) (by omega) HE4.out.bel.size ?_
            intro a2 c2 ws2 hown hg hat
            simp only [Nat.zero_add, List.nil_append] at hown hat ⊢
            have HE5 := Lib.hid (HE4.out.app2 (s := ⟨a2, t.auth.n, c2⟩) hg hown HK2.out)
            clear hown hg hat
            refine hK.out _ _ (by exact HE5.out.bel) ?_
            clear hK K
            try simp only [List.getElem_toArray, List.getElem_cons_zero, List.getElem_cons_succ, Act.put, List.setIfInBounds_toArray, List.set_cons_zero, List.set_cons_succ]
            refine wt_take (i := 27) (v := ?_) HTK.out rfl (by decide) (by kernel_rfl) (by kernel_rfl) (fun _ _ _ h => h) (by exact HE5.out.bel) (Or.inl ⟨by rfl, ?_⟩) ?_
            rotate_left
            · intro W hSw
              try dsimp only at hSw
              go_simp
              try (with_reducible rfl)
            try simp only [List.getElem_toArray, List.getElem_cons_zero, List.getElem_cons_succ, Act.put, List.setIfInBounds_toArray, List.set_cons_zero, List.set_cons_succ]
            refine wt_last (k := 28) (by kernel_rfl) (by kernel_rfl) (by decide) rfl (fun K hK => ?_)
            obtain ⟨e, he⟩ : ∃ e : T16, e = { t with content := x', prev := ⟨a1, t.prev.n, c1⟩, auth := ⟨a2, t.auth.n, c2⟩ } := ⟨_, rfl⟩
            have HEV := Lib.hid (show EvR ws2 (fun g => wb.heap.size ≤ g) e v p a by rw [he]; exact HE5.out.done t)
            have HBF := Lib.hid (HBB0.out.trans (HE5.out.bel.mono HBB0.out.size))
            have HRS := Lib.hid ((HE5.out.bel.block _ hresl).trans HRES.out)
            refine step_store_at (by rfl) _ _ _ (by rfl) (Wf.heap.size + 1) e.cells (by rfl) (by rw [he]; rfl) (there_of_block HRS.out rfl) (sizeE _) (t16_all _) ?_
            obtain ⟨wz, hwz⟩ : ∃ wz : World, wz = World.setCells ws2 (Wf.heap.size + 1) 0 e.cells.toList := ⟨_, rfl⟩
            rw [← hwz]
            have HFIN := Lib.hid (show wz.heap[Wf.heap.size + 1]? = some (.cells e.cells 97 (0, 0)) by rw [hwz]; exact setCells_whole (cs := e.cells) HRS.out rfl)
            have HG := Lib.hid (show World.grownBy ws2 wz (some (Wf.heap.size + 1)) by rw [hwz]; exact setCells_grown (Wf.heap.size + 1) e.cells.toList 0 ws2)
            clear hwz
            refine hK.out _ _ ?_
            clear hK K
            try simp only [List.getElem_toArray, List.getElem_cons_zero, List.getElem_cons_succ, Act.put, List.setIfInBounds_toArray, List.set_cons_zero, List.set_cons_succ]
            go_wp2_with fail
            have hev2 : EvR wz (fun g => Wf.heap.size ≤ g) e v p a := HEV.out.stored_at HG.out hresl hle
            have hbf2 : Below Wf.heap.size Wf wz := stored_below HBF.out HG.out (Nat.le_succ _) HBF.out.size
            have HEQ := Lib.hid he
            clear he
            refine bodyPost_ret (results_cell_row rfl _ _ (Wf.heap.size + 1) 97 e.cells (0, 0) _ rfl HFIN.out Tryz.underlying97 rfl (sizeE _)) rfl ?_
            have he := HEQ.out
            subst he
            exact ⟨x', ⟨a1, t.prev.n, c1⟩, ⟨a2, t.auth.n, c2⟩, rfl, hev2, hbf2⟩
          exact AllT.nil
        exact AllT.nil
      refine AllT.cons rfl (by decide) (fun K hK => ?_) ?_
      · go_simp
        have HE3 := Lib.hid (HE2.out.new2)
        obtain ⟨wn2, hwn⟩ : ∃ wn : World, wn = World.alloc wv (.cells #[] 9) := ⟨_, rfl⟩
        rw [← hwn] at HE3 ⊢
        clear hwn
        refine hK.out _ _ (by exact HE3.out.bel) ?_
        clear hK K
        try simp only [List.getElem_toArray, List.getElem_cons_zero, List.getElem_cons_succ, Act.put, List.setIfInBounds_toArray, List.set_cons_zero, List.set_cons_succ]
        refine wt_ready (rs := [22]) (by kernel_rfl) (by simp) ?_
        refine AllT.cons rfl (by decide) (fun K hK => ?_) ?_
        · refine step_append_src _ (by rfl) _ _ _ (by rfl) wb.heap.size 9 i0 _ 1 16 Tryz.underlying62 HI.out HZ0.out HZ1.out HZ2.out rfl (by omega) _ 0 [] (by rfl) HE3.out.own1 t.prev.a t.prev.n t.prev.c (trows p) (by rfl) (HS1.out _ HE3.out.bel) (by unfold maxLen; omega) (by omega) HE3.out.bel.size ?_
          intro a1 c1 ws1 hown hg hat
          simp only [Nat.zero_add, List.nil_append] at hown hat ⊢
          have HE4 := Lib.hid (HE3.out.app1 (s := ⟨a1, t.prev.n, c1⟩) hg hown HK1.out hat)
          clear hown hg hat
          refine hK.out _ _ (by exact HE4.out.bel) ?_
          clear hK K
          try simp only [List.getElem_toArray, List.getElem_cons_zero, List.getElem_cons_succ, Act.put, List.setIfInBounds_toArray, List.set_cons_zero, List.set_cons_succ]
          refine wt_ready (rs := [26]) (by kernel_rfl) (by simp) ?_
          refine AllT.cons rfl (by decide) (fun K hK => ?_) ?_
          · refine step_append_src _ (by rfl) _ _ _ (by rfl) wb.heap.size 9 i0 _ 1 16 Tryz.underlying62 HI.out HZ0.out HZ1.out HZ2.out rfl (by omega) _ 0 [] (by rfl) HE4.out.own2 t.auth.a t.auth.n t.auth.c (trows a) (by rfl) (HS2.out _ HE4.out.bel) (by unfold maxLen; omega) (by omega) HE4.out.bel.size ?_
            intro a2 c2 ws2 hown hg hat
            simp only [Nat.zero_add, List.nil_append] at hown hat ⊢
            have HE5 := Lib.hid (HE4.out.app2 (s := ⟨a2, t.auth.n, c2⟩) hg hown HK2.out)
            clear hown hg hat
            refine hK.out _ _ (by exact HE5.out.bel) ?_
            clear hK K
            try simp only [List.getElem_toArray, List.getElem_cons_zero, List.getElem_cons_succ, Act.put, List.setIfInBounds_toArray, List.set_cons_zero, List.set_cons_succ]
            refine wt_take (i := 27) (v := ?_) HTK.out rfl (by decide) (by kernel_rfl) (by kernel_rfl) (fun _ _ _ h => h) (by exact HE5.out.bel) (Or.inl ⟨by rfl, ?_⟩) ?_
            rotate_left
            · intro W hSw
              try dsimp only at hSw
              go_simp
              try (with_reducible rfl)
            try simp only [List.getElem_toArray, List.getElem_cons_zero, List.getElem_cons_succ, Act.put, List.setIfInBounds_toArray, List.set_cons_zero, List.set_cons_succ]
            refine wt_last (k := 28) (by kernel_rfl) (by kernel_rfl) (by decide) rfl (fun K hK => ?_)
            obtain ⟨e, he⟩ : ∃ e : T16, e = { t with content := x', prev := ⟨a1, t.prev.n, c1⟩, auth := ⟨a2, t.auth.n, c2⟩ } := ⟨_, rfl⟩
            have HEV := Lib.hid (show EvR ws2 (fun g => wb.heap.size ≤ g) e v p a by rw [he]; exact HE5.out.done t)
            have HBF := Lib.hid (HBB0.out.trans (HE5.out.bel.mono HBB0.out.size))
            have HRS := Lib.hid ((HE5.out.bel.block _ hresl).trans HRES.out)
            refine step_store_at (by rfl) _ _ _ (by rfl) (Wf.heap.size + 1) e.cells (by rfl) (by rw [he]; rfl) (there_of_block HRS.out rfl) (sizeE _) (t16_all _) ?_
            obtain ⟨wz, hwz⟩ : ∃ wz : World, wz = World.setCells ws2 (Wf.heap.size + 1) 0 e.cells.toList := ⟨_, rfl⟩
            rw [← hwz]
            have HFIN := Lib.hid (show wz.heap[Wf.heap.size + 1]? = some (.cells e.cells 97 (0, 0)) by rw [hwz]; exact setCells_whole (cs := e.cells) HRS.out rfl)
            have HG := Lib.hid (show World.grownBy ws2 wz (some (Wf.heap.size + 1)) by rw [hwz]; exact setCells_grown (Wf.heap.size + 1) e.cells.toList 0 ws2)
            clear hwz
            refine hK.out _ _ ?_
            clear hK K
            try simp only [List.getElem_toArray, List.getElem_cons_zero, List.getElem_cons_succ, Act.put, List.setIfInBounds_toArray, List.set_cons_zero, List.set_cons_succ]
            go_wp2_with fail
            have hev2 : EvR wz (fun g => Wf.heap.size ≤ g) e v p a := HEV.out.stored_at HG.out hresl hle
            have hbf2 : Below Wf.heap.size Wf wz := stored_below HBF.out HG.out (Nat.le_succ _) HBF.out.size
            have HEQ := Lib.hid he
            clear he
            refine bodyPost_ret (results_cell_row rfl _ _ (Wf.heap.size + 1) 97 e.cells (0, 0) _ rfl HFIN.out Tryz.underlying97 rfl (sizeE _)) rfl ?_
            have he := HEQ.out
            subst he
            exact ⟨x', ⟨a1, t.prev.n, c1⟩, ⟨a2, t.auth.n, c2⟩, rfl, hev2, hbf2⟩
          exact AllT.nil
        exact AllT.nil
      exact AllT.nil
    refine AllT.cons rfl (by decide) (fun K hK => ?_) ?_
    · go_simp
      have HE2 := Lib.hid (HE1.out.new2)
      obtain ⟨wn1, hwn⟩ : ∃ wn : World, wn = World.alloc wn0 (.cells #[] 9) := ⟨_, rfl⟩
      rw [← hwn] at HE2 ⊢
      clear hwn
      refine hK.out _ _ (by exact HE2.out.bel) ?_
      clear hK K
      try simp only [List.getElem_toArray, List.getElem_cons_zero, List.getElem_cons_succ, Act.put, List.setIfInBounds_toArray, List.set_cons_zero, List.set_cons_succ]
      refine wt_ready (rs := [14]) (by kernel_rfl) (by simp) ?_
      refine AllT.cons rfl (by decide) (fun K hK => ?_) ?_
      · go_simp
        go_at_call 64
        refine (real_ok HTC.out _ (HBB.out.trans (HE2.out.bel.mono HBB.out.size))).mono ?_
        rintro e wv ⟨x', rfl, hrep, hbz⟩
        have HE3 := Lib.hid (Es.call HE2.out hbz hrep)
        clear hrep hbz
        refine hK.out _ _ (by exact HE3.out.bel) ?_
        clear hK K
        try simp only [List.getElem_toArray, List.getElem_cons_zero, List.getElem_cons_succ, Act.put, List.setIfInBounds_toArray, List.set_cons_zero, List.set_cons_succ]
        refine wt_ready (rs := [22]) (by kernel_rfl) (by simp) ?_
        refine AllT.cons rfl (by decide) (fun K hK => ?_) ?_
        · refine step_append_src _ (by rfl) _ _ _ (by rfl) wb.heap.size 9 i0 _ 1 16 Tryz.underlying62 HI.out HZ0.out HZ1.out HZ2.out rfl (by omega) _ 0 [] (by rfl) HE3.out.own1 t.prev.a t.prev.n t.prev.c (trows p) (by rfl) (HS1.out _ HE3.out.bel) (by unfold maxLen; omega) (by omega) HE3.out.bel.size ?_
          intro a1 c1 ws1 hown hg hat
          simp only [Nat.zero_add, List.nil_append] at hown hat ⊢
          have HE4 := Lib.hid (HE3.out.app1 (s := ⟨a1, t.prev.n, c1⟩) hg hown HK1.out hat)
          clear hown hg hat
          refine hK.out _ _ (by exact HE4.out.bel) ?_
          clear hK K
          try simp only [List.getElem_toArray, List.getElem_cons_zero, List.getElem_cons_succ, Act.put, List.setIfInBounds_toArray, List.set_cons_zero, List.set_cons_succ]
          refine wt_ready (rs := [26]) (by kernel_rfl) (by simp) ?_
          refine AllT.cons rfl (by decide) (fun K hK => ?_) ?_
          · refine step_append_src _ (by rfl) _ _ _ (by rfl) wb.heap.size 9 i0 _ 1 16 Tryz.underlying62 HI.out HZ0.out HZ1.out HZ2.out rfl (by omega) _ 0 [] (by rfl) HE4.out.own2 t.auth.a t.auth.n t.auth.c (trows a) (by rfl) (HS2.out _ HE4.out.bel) (by unfold maxLen; omega) (by omega) HE4.out.bel.size ?_
            intro a2 c2 ws2 hown hg hat
            simp only [Nat.zero_add, List.nil_append] at hown hat ⊢
            have HE5 := Lib.hid (HE4.out.app2 (s := ⟨a2, t.auth.n, c2⟩) hg hown HK2.out)
            clear hown hg hat
            refine hK.out _ _ (by exact HE5.out.bel) ?_
            clear hK K
            try simp only [List.getElem_toArray, List.getElem_cons_zero, List.getElem_cons_succ, Act.put, List.setIfInBounds_toArray, List.set_cons_zero, List.set_cons_succ]
            refine wt_take (i := 27) (v := ?_) HTK.out rfl (by decide) (by kernel_rfl) (by kernel_rfl) (fun _ _ _ h => h) (by exact HE5.out.bel) (Or.inl ⟨by rfl, ?_⟩) ?_
            rotate_left
            · intro W hSw
              try dsimp only at hSw
              go_simp
              try (with_reducible rfl)
            try simp only [List.getElem_toArray, List.getElem_cons_zero, List.getElem_cons_succ, Act.put, List.setIfInBounds_toArray, List.set_cons_zero, List.set_cons_succ]
            refine wt_last (k := 28) (by kernel_rfl) (by kernel_rfl) (by decide) rfl (fun K hK => ?_)
            obtain ⟨e, he⟩ : ∃ e : T16, e = { t with content := x', prev := ⟨a1, t.prev.n, c1⟩, auth := ⟨a2, t.auth.n, c2⟩ } := ⟨_, rfl⟩
            have HEV := Lib.hid (show EvR ws2 (fun g => wb.heap.size ≤ g) e v p a by rw [he]; exact HE5.out.done t)
            have HBF := Lib.hid (HBB0.out.trans (HE5.out.bel.mono HBB0.out.size))
            have HRS := Lib.hid ((HE5.out.bel.block _ hresl).trans HRES.out)
            refine step_store_at (by rfl) _ _ _ (by rfl) (Wf.heap.size + 1) e.cells (by rfl) (by rw [he]; rfl) (there_of_block HRS.out rfl) (sizeE _) (t16_all _) ?_
            obtain ⟨wz, hwz⟩ : ∃ wz : World, wz = World.setCells ws2 (Wf.heap.size + 1) 0 e.cells.toList := ⟨_, rfl⟩
            rw [← hwz]
            have HFIN := Lib.hid (show wz.heap[Wf.heap.size + 1]? = some (.cells e.cells 97 (0, 0)) by rw [hwz]; exact setCells_whole (cs := e.cells) HRS.out rfl)
            have HG := Lib.hid (show World.grownBy ws2 wz (some (Wf.heap.size + 1)) by rw [hwz]; exact setCells_grown (Wf.heap.size + 1) e.cells.toList 0 ws2)
            clear hwz
            refine hK.out _ _ ?_
            clear hK K
            try simp only [List.getElem_toArray, List.getElem_cons_zero, List.getElem_cons_succ, Act.put, List.setIfInBounds_toArray, List.set_cons_zero, List.set_cons_succ]
            go_wp2_with fail
            have hev2 : EvR wz (fun g => Wf.heap.size ≤ g) e v p a := HEV.out.stored_at HG.out hresl hle
            have hbf2 : Below Wf.heap.size Wf wz := stored_below HBF.out HG.out (Nat.le_succ _) HBF.out.size
            have HEQ := Lib.hid he
            clear he
            refine bodyPost_ret (results_cell_row rfl _ _ (Wf.heap.size + 1) 97 e.cells (0, 0) _ rfl HFIN.out Tryz.underlying97 rfl (sizeE _)) rfl ?_
            have he := HEQ.out
            subst he
            exact ⟨x', ⟨a1, t.prev.n, c1⟩, ⟨a2, t.auth.n, c2⟩, rfl, hev2, hbf2⟩
          exact AllT.nil
        exact AllT.nil
      exact AllT.nil
    exact AllT.nil
  refine AllT.cons rfl (by decide) (fun K hK => ?_) ?_
  · go_simp
    have HE1 := Lib.hid (HE0.out.new2)
    obtain ⟨wn0, hwn⟩ : ∃ wn : World, wn = World.alloc wd (.cells #[] 9) := ⟨_, rfl⟩
    rw [← hwn] at HE1 ⊢
    clear hwn
    refine hK.out _ _ (by exact HE1.out.bel) ?_
    clear hK K
    try simp only [List.getElem_toArray, List.getElem_cons_zero, List.getElem_cons_succ, Act.put, List.setIfInBounds_toArray, List.set_cons_zero, List.set_cons_succ]
    refine wt_ready (rs := [14, 19]) (by kernel_rfl) (by simp) ?_
    refine AllT.cons rfl (by decide) (fun K hK => ?_) ?_
    · go_simp
      go_at_call 64
      refine (real_ok HTC.out _ (HBB.out.trans (HE1.out.bel.mono HBB.out.size))).mono ?_
      rintro e wv ⟨x', rfl, hrep, hbz⟩
      have HE2 := Lib.hid (Es.call HE1.out hbz hrep)
      clear hrep hbz
      refine hK.out _ _ (by exact HE2.out.bel) ?_
      clear hK K
      try simp only [List.getElem_toArray, List.getElem_cons_zero, List.getElem_cons_succ, Act.put, List.setIfInBounds_toArray, List.set_cons_zero, List.set_cons_succ]
      refine wt_ready (rs := [19]) (by kernel_rfl) (by simp) ?_
      refine AllT.cons rfl (by decide) (fun K hK => ?_) ?_
      · go_simp
        have HE3 := Lib.hid (HE2.out.new1)
        obtain ⟨wn2, hwn⟩ : ∃ wn : World, wn = World.alloc wv (.cells #[] 9) := ⟨_, rfl⟩
        rw [← hwn] at HE3 ⊢
        clear hwn
        refine hK.out _ _ (by exact HE3.out.bel) ?_
        clear hK K
        try simp only [List.getElem_toArray, List.getElem_cons_zero, List.getElem_cons_succ, Act.put, List.setIfInBounds_toArray, List.set_cons_zero, List.set_cons_succ]
        refine wt_ready (rs := [22]) (by kernel_rfl) (by simp) ?_
        refine AllT.cons rfl (by decide) (fun K hK => ?_) ?_
        · refine step_append_src _ (by rfl) _ _ _ (by rfl) wb.heap.size 9 i0 _ 1 16 Tryz.underlying62 HI.out HZ0.out HZ1.out HZ2.out rfl (by omega) _ 0 [] (by rfl) HE3.out.own1 t.prev.a t.prev.n t.prev.c (trows p) (by rfl) (HS1.out _ HE3.out.bel) (by unfold maxLen; omega) (by omega) HE3.out.bel.size ?_
          intro a1 c1 ws1 hown hg hat
          simp only [Nat.zero_add, List.nil_append] at hown hat ⊢
          have HE4 := Lib.hid (HE3.out.app1 (s := ⟨a1, t.prev.n, c1⟩) hg hown HK1.out hat)
          clear hown hg hat
          refine hK.out _ _ (by exact HE4.out.bel) ?_
          clear hK K
          try simp only [List.getElem_toArray, List.getElem_cons_zero, List.getElem_cons_succ, Act.put, List.setIfInBounds_toArray, List.set_cons_zero, List.set_cons_succ]
          refine wt_ready (rs := [26]) (by kernel_rfl) (by simp) ?_
          refine AllT.cons rfl (by decide) (fun K hK => ?_) ?_
          · refine step_append_src _ (by rfl) _ _ _ (by rfl) wb.heap.size 9 i0 _ 1 16 Tryz.underlying62 HI.out HZ0.out HZ1.out HZ2.out rfl (by omega) _ 0 [] (by rfl) HE4.out.own2 t.auth.a t.auth.n t.auth.c (trows a) (by rfl) (HS2.out _ HE4.out.bel) (by unfold maxLen; omega) (by omega) HE4.out.bel.size ?_
            intro a2 c2 ws2 hown hg hat
            simp only [Nat.zero_add, List.nil_append] at hown hat ⊢
            have HE5 := Lib.hid (HE4.out.app2 (s := ⟨a2, t.auth.n, c2⟩) hg hown HK2.out)
            clear hown hg hat
            refine hK.out _ _ (by exact HE5.out.bel) ?_
            clear hK K
            try simp only [List.getElem_toArray, List.getElem_cons_zero, List.getElem_cons_succ, Act.put, List.setIfInBounds_toArray, List.set_cons_zero, List.set_cons_succ]
            refine wt_take (i := 27) (v := ?_) HTK.out rfl (by decide) (by kernel_rfl) (by kernel_rfl) (fun _ _ _ h => h) (by exact HE5.out.bel) (Or.inl ⟨by rfl, ?_⟩) ?_
            rotate_left
            · intro W hSw
              try dsimp only at hSw
              go_simp
              try (with_reducible rfl)
            try simp only [List.getElem_toArray, List.getElem_cons_zero, List.getElem_cons_succ, Act.put, List.setIfInBounds_toArray, List.set_cons_zero, List.set_cons_succ]
            refine wt_last (k := 28) (by kernel_rfl) (by kernel_rfl) (by decide) rfl (fun K hK => ?_)
            obtain ⟨e, he⟩ : ∃ e : T16, e = { t with content := x', prev := ⟨a1, t.prev.n, c1⟩, auth := ⟨a2, t.auth.n, c2⟩ } := ⟨_, rfl⟩
            have HEV := Lib.hid (show EvR ws2 (fun g => wb.heap.size ≤ g) e v p a by rw [he]; exact HE5.out.done t)
            have HBF := Lib.hid (HBB0.out.trans (HE5.out.bel.mono HBB0.out.size))
            have HRS := Lib.hid ((HE5.out.bel.block _ hresl).trans HRES.out)
            refine step_store_at (by rfl) _ _ _ (by rfl) (Wf.heap.size + 1) e.cells (by rfl) (by rw [he]; rfl) (there_of_block HRS.out rfl) (sizeE _) (t16_all _) ?_
            obtain ⟨wz, hwz⟩ : ∃ wz : World, wz = World.setCells ws2 (Wf.heap.size + 1) 0 e.cells.toList := ⟨_, rfl⟩
            rw [← hwz]
            have HFIN := Lib.hid (show wz.heap[Wf.heap.size + 1]? = some (.cells e.cells 97 (0, 0)) by rw [hwz]; exact setCells_whole (cs := e.cells) HRS.out rfl)
            have HG := Lib.hid (show World.grownBy ws2 wz (some (Wf.heap.size + 1)) by rw [hwz]; exact setCells_grown (Wf.heap.size + 1) e.cells.toList 0 ws2)
            clear hwz
            refine hK.out _ _ ?_
            clear hK K
            try simp only [List.getElem_toArray, List.getElem_cons_zero, List.getElem_cons_succ, Act.put, List.setIfInBounds_toArray, List.set_cons_zero, List.set_cons_succ]
            go_wp2_with fail
            have hev2 : EvR wz (fun g => Wf.heap.size ≤ g) e v p a := HEV.out.stored_at HG.out hresl hle
            have hbf2 : Below Wf.heap.size Wf wz := stored_below HBF.out HG.out (Nat.le_succ _) HBF.out.size
            have HEQ := Lib.hid he
            clear he
            refine bodyPost_ret (results_cell_row rfl _ _ (Wf.heap.size + 1) 97 e.cells (0, 0) _ rfl HFIN.out Tryz.underlying97 rfl (sizeE _)) rfl ?_
            have he := HEQ.out
            subst he
            exact ⟨x', ⟨a1, t.prev.n, c1⟩, ⟨a2, t.auth.n, c2⟩, rfl, hev2, hbf2⟩
          exact AllT.nil
        exact AllT.nil
      exact AllT.nil
    refine AllT.cons rfl (by decide) (fun K hK => ?_) ?_
    · go_simp
      have HE2 := Lib.hid (HE1.out.new1)
      obtain ⟨wn1, hwn⟩ : ∃ wn : World, wn = World.alloc wn0 (.cells #[] 9) := ⟨_, rfl⟩
      rw [← hwn] at HE2 ⊢
      clear hwn
      refine hK.out _ _ (by exact HE2.out.bel) ?_
      clear hK K
      try simp only [List.getElem_toArray, List.getElem_cons_zero, List.getElem_cons_succ, Act.put, List.setIfInBounds_toArray, List.set_cons_zero, List.set_cons_succ]
      refine wt_ready (rs := [14]) (by kernel_rfl) (by simp) ?_
      refine AllT.cons rfl (by decide) (fun K hK => ?_) ?_
      · go_simp
        go_at_call 64
        refine (real_ok HTC.out _ (HBB.out.trans (HE2.out.bel.mono HBB.out.size))).mono ?_
        rintro e wv ⟨x', rfl, hrep, hbz⟩
        have HE3 := Lib.hid (Es.call HE2.out hbz hrep)
        clear hrep hbz
        refine hK.out _ _ (by exact HE3.out.bel) ?_
        clear hK K
        try simp only [List.getElem_toArray, List.getElem_cons_zero, List.getElem_cons_succ, Act.put, List.setIfInBounds_toArray, List.set_cons_zero, List.set_cons_succ]
        refine wt_ready (rs := [22]) (by kernel_rfl) (by simp) ?_
        refine AllT.cons rfl (by decide) (fun K hK => ?_) ?_
        · refine step_append_src _ (by rfl) _ _ _ (by rfl) wb.heap.size 9 i0 _ 1 16 Tryz.underlying62 HI.out HZ0.out HZ1.out HZ2.out rfl (by omega) _ 0 [] (by rfl) HE3.out.own1 t.prev.a t.prev.n t.prev.c (trows p) (by rfl) (HS1.out _ HE3.out.bel) (by unfold maxLen; omega) (by omega) HE3.out.bel.size ?_
          intro a1 c1 ws1 hown hg hat
          simp only [Nat.zero_add, List.nil_append] at hown hat ⊢
          have HE4 := Lib.hid (HE3.out.app1 (s := ⟨a1, t.prev.n, c1⟩) hg hown HK1.out hat)
          clear hown hg hat
          refine hK.out _ _ (by exact HE4.out.bel) ?_
          clear hK K
          try simp only [List.getElem_toArray, List.getElem_cons_zero, List.getElem_cons_succ, Act.put, List.setIfInBounds_toArray, List.set_cons_zero, List.set_cons_succ]
          refine wt_ready (rs := [26]) (by kernel_rfl) (by simp) ?_
          refine AllT.cons rfl (by decide) (fun K hK => ?_) ?_
          · refine step_append_src _ (by rfl) _ _ _ (by rfl) wb.heap.size 9 i0 _ 1 16 Tryz.underlying62 HI.out HZ0.out HZ1.out HZ2.out rfl (by omega) _ 0 [] (by rfl) HE4.out.own2 t.auth.a t.auth.n t.auth.c (trows a) (by rfl) (HS2.out _ HE4.out.bel) (by unfold maxLen; omega) (by omega) HE4.out.bel.size ?_
            intro a2 c2 ws2 hown hg hat
            simp only [Nat.zero_add, List.nil_append] at hown hat ⊢
            have HE5 := Lib.hid (HE4.out.app2 (s := ⟨a2, t.auth.n, c2⟩) hg hown HK2.out)
            clear hown hg hat
            refine hK.out _ _ (by exact HE5.out.bel) ?_
            clear hK K
            try simp only [List.getElem_toArray, List.getElem_cons_zero, List.getElem_cons_succ, Act.put, List.setIfInBounds_toArray, List.set_cons_zero, List.set_cons_succ]
            refine wt_take (i := 27) (v := ?_) HTK.out rfl (by decide) (by kernel_rfl) (by kernel_rfl) (fun _ _ _ h => h) (by exact HE5.out.bel) (Or.inl ⟨by rfl, ?_⟩) ?_
            rotate_left
            · intro W hSw
              try dsimp only at hSw
              go_simp
              try (with_reducible rfl)
            try simp only [List.getElem_toArray, List.getElem_cons_zero, List.getElem_cons_succ, Act.put, List.setIfInBounds_toArray, List.set_cons_zero, List.set_cons_succ]
            refine wt_last (k := 28) (by kernel_rfl) (by kernel_rfl) (by decide) rfl (fun K hK => ?_)
            obtain ⟨e, he⟩ : ∃ e : T16, e = { t with content := x', prev := ⟨a1, t.prev.n, c1⟩, auth := ⟨a2, t.auth.n, c2⟩ } := ⟨_, rfl⟩
            have HEV := Lib.hid (show EvR ws2 (fun g => wb.heap.size ≤ g) e v p a by rw [he]; exact HE5.out.done t)
            have HBF := Lib.hid (HBB0.out.trans (HE5.out.bel.mono HBB0.out.size))
            have HRS := Lib.hid ((HE5.out.bel.block _ hresl).trans HRES.out)
            refine step_store_at (by rfl) _ _ _ (by rfl) (Wf.heap.size + 1) e.cells (by rfl) (by rw [he]; rfl) (there_of_block HRS.out rfl) (sizeE _) (t16_all _) ?_
            obtain ⟨wz, hwz⟩ : ∃ wz : World, wz = World.setCells ws2 (Wf.heap.size + 1) 0 e.cells.toList := ⟨_, rfl⟩
            rw [← hwz]
            have HFIN := Lib.hid (show wz.heap[Wf.heap.size + 1]? = some (.cells e.cells 97 (0, 0)) by rw [hwz]; exact setCells_whole (cs := e.cells) HRS.out rfl)
            have HG := Lib.hid (show World.grownBy ws2 wz (some (Wf.heap.size + 1)) by rw [hwz]; exact setCells_grown (Wf.heap.size + 1) e.cells.toList 0 ws2)
            clear hwz
            refine hK.out _ _ ?_
            clear hK K
            try simp only [List.getElem_toArray, List.getElem_cons_zero, List.getElem_cons_succ, Act.put, List.setIfInBounds_toArray, List.set_cons_zero, List.set_cons_succ]
            go_wp2_with fail
            have hev2 : EvR wz (fun g => Wf.heap.size ≤ g) e v p a := HEV.out.stored_at HG.out hresl hle
            have hbf2 : Below Wf.heap.size Wf wz := stored_below HBF.out HG.out (Nat.le_succ _) HBF.out.size
            have HEQ := Lib.hid he
            clear he
            refine bodyPost_ret (results_cell_row rfl _ _ (Wf.heap.size + 1) 97 e.cells (0, 0) _ rfl HFIN.out Tryz.underlying97 rfl (sizeE _)) rfl ?_
            have he := HEQ.out
            subst he
            exact ⟨x', ⟨a1, t.prev.n, c1⟩, ⟨a2, t.auth.n, c2⟩, rfl, hev2, hbf2⟩
          exact AllT.nil
        exact AllT.nil
      exact AllT.nil
    exact AllT.nil
  exact AllT.nil
end Go.Proofs.YtgnoaeldmpbjmaaGreatDoor
/- A state of any events: Made. -/
set_option linter.unusedVariables false
set_option linter.unusedSimpArgs false
namespace Go.Proofs.YtgnoaeldmpbjmaaGreatDoor
open Go.RowKit

def madeT (l : List Tx) : List Tx := l.foldl withT []
theorem madeT_snoc (l : List Tx) (x : Tx) : madeT (l ++ [x]) = withT (madeT l) x := by unfold madeT; rw [List.foldl_append]; rfl
theorem madeT_len (l : List Tx) : (madeT l).length ≤ l.length := by
  rw [← List.reverse_reverse l]
  induction l.reverse with
  | nil => exact Nat.le_refl _
  | cons x l ih =>
    rw [List.reverse_cons, madeT_snoc]
    have := withT_len (madeT l.reverse) x
    simp at ih ⊢
    omega
theorem madeT_two (l : List Tx) : NoTwo (madeT l) := by
  rw [← List.reverse_reverse l]
  induction l.reverse with
  | nil => exact List.Pairwise.nil
  | cons x l ih =>
    rw [List.reverse_cons, madeT_snoc]
    exact withT_two ih
theorem madeT_mem {l : List Tx} {z : Tx} (h : z ∈ madeT l) : z ∈ l := by
  rw [← List.reverse_reverse l] at h ⊢
  revert h
  induction l.reverse with
  | nil => intro h; cases h
  | cons x l ih =>
    rw [List.reverse_cons, madeT_snoc]
    intro h
    rcases withT_mem h with h | h
    · exact List.mem_append_left _ (ih h)
    · rw [h]; simp
theorem withT_state {l : List Tx} {t : Tx} (hl : ∀ z ∈ l, z.1.state = true) : ∀ z ∈ withT l t, z.1.state = true := by
  intro z hz
  by_cases ht : t.1.state = true
  · rcases withT_mem hz with h | h
    · exact hl z h
    · rw [h]; exact ht
  · unfold withT at hz
    rw [if_neg ht] at hz
    exact hl z hz
theorem madeT_state (l : List Tx) : ∀ z ∈ madeT l, z.1.state = true := by
  rw [← List.reverse_reverse l]
  induction l.reverse with
  | nil => intro z hz; cases hz
  | cons x l ih =>
    rw [List.reverse_cons, madeT_snoc]
    exact withT_state ih
set_option maxRecDepth 100000 in
set_option maxHeartbeats 4000000 in
theorem made_ok {w : World} {s : Sl} {l : List Tx} (h : TsIn w s l) : ∀ W, Below w.heap.size w W → Calls Tryz.prog 12 #[.slice s.a s.n s.c] W fun e w' => ∃ s' : Sl, e = .returned s'.val ∧ TsIn w' s' (madeT l) ∧ Below W.heap.size W w' := by
  intro W hbW
  have hn : s.n = l.length := by have := h.r.1; simpa using this
  have hk : l.length ≤ 586406201480 := by have := h.r.2.1; simpa using this
  have HR := Lib.hid h.r.2.2.2
  have HTS := Lib.hid h
  have HBW := Lib.hid hbW
  obtain ⟨A, n, c⟩ := s
  dsimp only at hn
  subst hn
  clear h hbW
  go_enter Tryz.func12, Tryz.ntmps12
  go_wp2_with fail
  go_loopw [3, 8] (fun c3 i wr => ∃ (k : Nat) (s1 : Sl), k ≤ l.length ∧ i = .int .i64 k ∧ c3 = .slice s1.a s1.n s1.c ∧ TsIn wr s1 (madeT (l.take k)) ∧ Below W.heap.size W wr) (fun _ i _ => l.length - (intOf i).toNat)
  case atStart => exact ⟨0, ⟨none, 0, 0⟩, by omega, rfl, rfl, ⟨⟨rfl, by simp [madeT], by simp [madeT], fun h => absurd h (by simp [madeT])⟩, by simp [madeT]⟩, Below.refl _ _⟩
  case round =>
    obtain ⟨k, ⟨sa, sn, sc⟩, hk', rfl, rfl, hts, hb⟩ := hrel
    dsimp only
    by_cases hlt : k < l.length
    · obtain ⟨ad, hla, hadl, hcell⟩ := HR.out (by simpa using (by omega : 0 < l.length))
      have hy : l[k]? = some l[k] := List.getElem?_eq_getElem hlt
      have hmem : l[k] ∈ l := List.getElem_mem hlt
      generalize l[k] = x at hy hmem
      have htn := HTS.out.e x hmem
      have htk : madeT (l.take (k + 1)) = withT (madeT (l.take k)) x := by rw [List.take_add_one, hy]; exact madeT_snoc _ _
      obtain ⟨y, v, p, a⟩ := x
      have hrow : (l.map fun x => x.1.cells.toList)[k]? = some y.cells.toList := by rw [List.getElem?_map, hy]; rfl
      have hbr : Below w.heap.size w wr := HBW.out.trans (hb.mono HBW.out.size)
      have HEC := Lib.hid (show Holds wr (ad.add (k * 16)) y.cells from fun d u hd => by rw [at2_add]; exact (hbr.cell (p := at2 ad (k * 16) d) (by rw [at2_block]; exact hadl)).trans (hcell k d _ _ hrow (by simpa using hd)))
      have hadr : ad.block < wr.heap.size := Nat.lt_of_lt_of_le hadl hbr.size
      have hml := madeT_len (l.take k)
      have hml2 : (madeT (l.take k)).length + 1 ≤ 586406201480 := by simp at hml; omega
      have HWI := Lib.hid (fun (W' : World) (hW : Below wr.heap.size wr W') => with_ok hts (htn.under hbr rfl) hml2 W' hW)
      have HTK := Lib.hid htk
      have HB := Lib.hid hb
      subst hla
      clear hy hmem htn htk hrow hbr hts hml hml2 hcell hb
      go_wp2_with (refine wpList_load_at rfl _ _ rfl _ rfl y.cells _ HEC.out Tryz.underlying73 rfl (sizeT _) ?_)
      have hba : Below wr.heap.size wr (wr.alloc (.cells y.cells 73)) := (Below.refl _ _).alloc (Nat.le_refl _) _
      refine (HWI.out _ hba).mono ?_
      rintro e w2 ⟨s2, rfl, hts2, hb2⟩
      have HT2 := Lib.hid hts2
      have HB2 := Lib.hid (HB.out.trans ((hba.trans (hb2.mono hba.size)).mono HB.out.size))
      clear hts2 hb2 hba HWI
      go_wp2_with fail
      exact ⟨⟨k + 1, s2, by omega, by go_num, rfl, by rw [HTK.out]; exact HT2.out, HB2.out⟩, by simp [intOf]; omega⟩
    · obtain rfl : k = l.length := by omega
      rw [List.take_length] at hts
      have HT := Lib.hid hts
      have HB := Lib.hid hb
      clear hts hb
      go_wp2_with fail
      go_ret
      exact ⟨⟨sa, sn, sc⟩, rfl, HT.out, HB.out⟩
end Go.Proofs.YtgnoaeldmpbjmaaGreatDoor
/- A state as the program has it: a map of events by pairs. -/
set_option linter.unusedVariables false
set_option linter.unusedSimpArgs false
namespace Go.Proofs.YtgnoaeldmpbjmaaGreatDoor
open Go.RowKit

section
variable {P : Program}
/-- m[k] = v, where k is new, at a step of a region that draws. -/
theorem step_updateK {w : World} {ops : Array Oper} {o : Oper} {a : Act} {K : Act → World → Prop} {Q : Exit → Act → World → Prop} {G : Prop} (hg : o.guard = none) (m x y : Operand) (t : TypeId) (hop : o.op = Op.mapUpdate t m x y) (e : TypeId) (ht : Tryz.prog.underlying t = some (.map 100 e))
    (b : Nat) (l : List E2) (hm : a.eval m = .map (some b)) (hown : MapK w b l) (hn : l.length < maxLen) (k : ByteArray × ByteArray) (hx : a.eval x = kv2 k) (hk : Ks k) (hnew : ∀ e ∈ l, e.1 ≠ k) (v : Value) (hy : a.eval y = v)
    (hK : ∀ w', MapK w' b ((k, v) :: l) → w.mapTurned w' b → K (a.put o.dst undef) w') : if Region.wanted o (yielded ops a.tmps) = true then Oper.wp Tryz.prog o a w K Q else G := by
  have hw : Region.wanted o (yielded ops a.tmps) = true := by simp [Region.wanted, hg]
  rw [if_pos hw]
  obtain ⟨es, h1, h2, h3, h4⟩ := hown
  obtain ⟨w', hrun, g1, g2⟩ := h1.store keyed2 ht hn (keyOf2 k hk) (val := v) (d := .held v) (ps := []) rfl
  have hfin : MapK w' b ((k, v) :: l) := by
    refine ⟨DataW.insert (lk2 k, .held v) (es.filter fun p => !p.1.sameKey (lk2 k)), g1, ?_, List.pairwise_cons.2 ⟨fun e he => (hnew e he).symm, h3⟩, ?_⟩
    · refine (WideShapes.insert_perm _ _).trans ?_
      have : (es.filter fun p => !p.1.sameKey (lk2 k)) = es := by
        rw [List.filter_eq_self]
        intro y hy
        obtain ⟨x, hx, rfl⟩ := List.mem_map.1 (h2.mem_iff.1 hy)
        have := mt (lk2_same (h4 x hx) hk).1 (hnew x hx)
        simpa [ent] using this
      rw [this]
      exact h2.cons _
    · intro e he
      rcases List.mem_cons.1 he with rfl | he
      · exact hk
      · exact h4 e he
  unfold Oper.wp
  simp [execOp, hop, hm, hx, hy, hrun, Result.andThen]
  exact hK w' hfin g2
end
abbrev En2 := Tx × T16
abbrev En2.e (z : En2) : E2 := (z.1.1.k, .agg z.2.cells)
/-- Block b is the program's state: each event's key, and the event's cells, with what they reach. -/
structure StR (w : World) (P : Nat → Prop) (b : Nat) (zs : List En2) : Prop where
  m : MapK w b (zs.map En2.e)
  ev : ∀ z ∈ zs, EvR w P z.2 z.1.2.1 z.1.2.2.1 z.1.2.2.2
  eq : ∀ z ∈ zs, z.2 = { z.1.1 with content := z.2.content, prev := z.2.prev, auth := z.2.auth }
theorem StR.same {w w' : World} {P : Nat → Prop} {b : Nat} {zs : List En2} (h : StR w P b zs) (hs : w.heap.size ≤ w'.heap.size) (hb : ∀ g, g < w.heap.size → P g → w'.heap[g]? = w.heap[g]?) (hm : w'.heap[b]? = w.heap[b]?) : StR w' P b zs :=
  ⟨h.m.same hm, fun z hz => (h.ev z hz).same hs hb, h.eq⟩
theorem StR.below {w w' : World} {P : Nat → Prop} {b : Nat} {zs : List En2} (h : StR w P b zs) (hb : Below w.heap.size w w') : StR w' P b zs :=
  h.same hb.size (fun g hg _ => hb.block g hg) (hb.block b h.m.lt)
theorem StR.add {w w' : World} {B b : Nat} {zs : List En2} {z : En2} (h : StR w (fun g => B ≤ g ∧ g ≠ b) b zs) (hm : MapK w' b ((z :: zs).map En2.e)) (ht : w.mapTurned w' b) (he : EvR w (fun g => B ≤ g ∧ g ≠ b) z.2 z.1.2.1 z.1.2.2.1 z.1.2.2.2) (heq : z.2 = { z.1.1 with content := z.2.content, prev := z.2.prev, auth := z.2.auth }) :
    StR w' (fun g => B ≤ g ∧ g ≠ b) b (z :: zs) := by
  have hg := World.mapTurned.grown ht
  have hk : ∀ {y : En2}, EvR w (fun g => B ≤ g ∧ g ≠ b) y.2 y.1.2.1 y.1.2.2.1 y.1.2.2.2 → EvR w' (fun g => B ≤ g ∧ g ≠ b) y.2 y.1.2.1 y.1.2.2.1 y.1.2.2.2 := fun hy => hy.same hg.size (fun g hgl hp => hg.block g hgl (fun e => hp.2 (Option.some.inj e)))
  refine ⟨hm, fun y hy => ?_, fun y hy => ?_⟩
  · rcases List.mem_cons.1 hy with rfl | hy
    · exact hk he
    · exact hk (h.ev y hy)
  · rcases List.mem_cons.1 hy with rfl | hy
    · exact heq
    · exact h.eq y hy
theorem TIn.ks {w : World} {t : T16} {v : V} {p a : List ByteArray} (h : TIn w t v p a) : Ks t.k := ⟨h.z.2.2.2.1, h.z.2.2.2.2⟩
theorem new_of_two {l : List Tx} (h : NoTwo l) {k : Nat} {x : Tx} (hx : l[k]? = some x) : ∀ y ∈ l.take k, y.1.k ≠ x.1.k := by
  intro y hy
  obtain ⟨i, hi⟩ := List.mem_iff_getElem?.1 hy
  have hik : i < k := by
    have := (List.getElem?_eq_some_iff.1 hi).1
    simp at this; omega
  rw [List.getElem?_take_of_lt hik] at hi
  have h1 := (List.getElem?_eq_some_iff.1 hi)
  have h2 := (List.getElem?_eq_some_iff.1 hx)
  have := List.pairwise_iff_getElem.1 h i k h1.1 h2.1 hik
  rw [h1.2, h2.2] at this
  exact this
end Go.Proofs.YtgnoaeldmpbjmaaGreatDoor
/- auth.State.Content: a pair's content. -/
set_option linter.unusedVariables false
set_option linter.unusedSimpArgs false
namespace Go.Proofs.YtgnoaeldmpbjmaaGreatDoor
open Go.RowKit

def zV6 : V6 := ⟨0, false, 0, ⟨#[]⟩, ⟨none, 0, 0⟩, ⟨none, 0, 0⟩⟩
def zT : T16 := ⟨⟨#[]⟩, ⟨#[]⟩, ⟨#[]⟩, ⟨#[]⟩, ⟨#[]⟩, false, zV6, 0, 0, ⟨none, 0, 0⟩, ⟨none, 0, 0⟩⟩
theorem zeroE (w : World) : (zeroValue 97).run Tryz.prog w = .ok (.agg (T16.cells zT)) w := by kernel_rfl
def NoKey (l : List E2) (k : K2) : Prop := ∀ e ∈ l, e.1 ≠ k
theorem lookupK_ok' (w : World) {ops : Array Oper} {rest : List Oper} {o : Oper} {a : Act} {Q : Exit → Act → World → Prop} (hg : o.guard = none) (m x : Operand) (t : TypeId) (hop : o.op = Op.lookup t m x true) (e : TypeId) (ht : Tryz.prog.underlying t = some (.map 100 e)) (z : Value) (hz : (zeroValue e).run Tryz.prog w = .ok z w)
    (b : Nat) (l : List E2) (hm : a.eval m = .map (some b)) (hown : MapK w b l) (k : ByteArray × ByteArray) (hx : a.eval x = kv2 k) (hk : Ks k)
    (hhit : ∀ v, (k, v) ∈ l → wpList Tryz.prog ops Q rest (a.put o.dst (.tuple #[v, .bool true])) w) (hmiss : NoKey l k → wpList Tryz.prog ops Q rest (a.put o.dst (.tuple #[z, .bool false])) w) : wpList Tryz.prog ops Q (o :: rest) a w :=
  lookupK_ok w hg m x t hop e ht z hz b l hm hown k hx hk hhit (fun h => hmiss h)
/-- The content of a pair's event, of the entries. -/
def contZ (zs : List En2) (k : K2) : V := ((zs.find? fun z => same2 z.1.1.k k).map fun z => z.1.2.1).getD nilV
theorem contZ_hit {zs : List En2} {z : En2} {k : K2} (hd : zs.Pairwise fun x y => x.1.1.k ≠ y.1.1.k) (hz : z ∈ zs) (hk : z.1.1.k = k) : zs.find? (fun z => same2 z.1.1.k k) = some z := by
  refine find_one hz (same2_iff.2 hk) fun y hy he => ?_
  have hyk := (same2_iff.1 he).trans hk.symm
  obtain ⟨i, hi⟩ := List.mem_iff_getElem?.1 hy
  obtain ⟨j, hj⟩ := List.mem_iff_getElem?.1 hz
  have h1 := List.getElem?_eq_some_iff.1 hi
  have h2 := List.getElem?_eq_some_iff.1 hj
  rcases Nat.lt_trichotomy i j with h | h | h
  · have := List.pairwise_iff_getElem.1 hd i j h1.1 h2.1 h
    rw [h1.2, h2.2] at this
    exact absurd hyk this
  · subst h
    rw [hi] at hj
    exact Option.some.inj hj
  · have := List.pairwise_iff_getElem.1 hd j i h2.1 h1.1 h
    rw [h1.2, h2.2] at this
    exact absurd hyk.symm this
theorem StR.two {w : World} {P : Nat → Prop} {b : Nat} {zs : List En2} (h : StR w P b zs) : zs.Pairwise fun x y => x.1.1.k ≠ y.1.1.k := by
  obtain ⟨es, _, _, h3, _⟩ := h.m
  exact (List.pairwise_map (f := En2.e) (R := fun x y : E2 => x.1 ≠ y.1)).1 h3
/-- The call of Copy, and what stands behind it, whichever event is there. -/
structure CtA (w : World) (Q : Nat → Prop) (e : T16) (v : V) (wa : World) : Prop where
  bel : Below w.heap.size w wa
  z : wa.heap[w.heap.size]? = some (.cells (V6.cells zV6) 92 (0, 0))
  eh : Holds wa ⟨w.heap.size + 1, 0, none⟩ e.cells
  rep : RepV wa Q e.content v
theorem CtA.mk' {w : World} {Q : Nat → Prop} {e : T16} {v : V} (h : RepV w Q e.content v) : CtA w Q e v ((w.alloc (.cells (V6.cells zV6) 92)).alloc (.cells e.cells 97)) := by
  have hb : Below w.heap.size w ((w.alloc (.cells (V6.cells zV6) 92)).alloc (.cells e.cells 97)) := ((Below.refl _ _).alloc (Nat.le_refl _) _).alloc (by simp) _
  refine ⟨hb, (heap_old_at _ _ _ (by simp)).trans (heap_new_at _ _ _ rfl), Holds.of_block (heap_new_at _ _ _ (by simp)), h.same hb.size (fun g hg _ => hb.block g hg)⟩
set_option maxRecDepth 100000 in
set_option maxHeartbeats 4000000 in
theorem content_ok (w : World) (Q : Nat → Prop) (b : Nat) (zs : List En2) (h : StR w Q b zs) (k : K2) (hk : Ks k) : Calls Tryz.prog 36 #[.map (some b), .string k.1, .string k.2] w fun e w' => ∃ (x' : V6) (ok : Bool), e = .returned (.tuple #[.agg x'.cells, .bool ok]) ∧ RepV w' (fun g => w.heap.size ≤ g) x' (contZ zs k) ∧ Below w.heap.size w w' := by
  obtain ⟨es, hes⟩ : ∃ es, es = zs.map En2.e := ⟨_, rfl⟩
  have HM := Lib.hid (show MapK (w.alloc (.cells (V6.cells zV6) 92)) b es by rw [hes]; exact h.m.same (heap_old_at _ _ _ h.m.lt))
  have HES := Lib.hid hes
  have HEV := Lib.hid h.ev
  have HTW := Lib.hid h.two
  have HKS := Lib.hid hk
  have HZV := Lib.hid (show V6.cells zV6 = #[.int .i64 0, .bool false, .int .i64 0, .string ⟨#[]⟩, .slice none 0 0, .slice none 0 0] from rfl)
  obtain ⟨k1, k2⟩ := k
  dsimp only
  clear h hk hes
  go_enter Tryz.func36, Tryz.ntmps36
  go_wp2_with (at_lookup; refine lookupK_ok' _ rfl _ _ 46 rfl 97 Tryz.underlying46 (.agg (T16.cells zT)) (zeroE _) b es rfl HM.out (k1, k2) rfl HKS.out ?hit ?miss)
  case hit =>
    intro v hv
    rw [HES.out] at hv
    obtain ⟨z, hz, he⟩ := List.mem_map.1 hv
    have he1 : z.1.1.k = (k1, k2) := congrArg Prod.fst he
    have he2 : v = .agg z.2.cells := (congrArg Prod.snd he).symm
    subst he2
    have hcz : contZ zs (k1, k2) = z.1.2.1 := by unfold contZ; rw [contZ_hit HTW.out hz he1]; rfl
    have HCZ := Lib.hid hcz
    have HCA := Lib.hid (CtA.mk' (HEV.out z hz).c)
    obtain ⟨e, hee⟩ : ∃ e, e = z.2 := ⟨_, rfl⟩
    rw [← hee] at HCA ⊢
    generalize z.1.2.1 = vv at HCA HCZ
    clear hv hz he he1 hcz hee
    go_upto_region 2 with fail
    obtain ⟨wa, hwa⟩ : ∃ wa : World, wa = World.alloc (w.alloc (.cells (V6.cells zV6) 92)) (.cells e.cells 97) := ⟨_, rfl⟩
    rw [← hwa] at HCA
    have hwa2 := hwa
    rw [HZV.out] at hwa2
    try rw [← hwa2]
    try rw [← hwa]
    have HCP := Lib.hid (copy_calls wa Q e.content vv HCA.out.rep)
    clear hwa hwa2
    go_wp2_with (refine wpList_load_at rfl _ _ rfl _ rfl (V6.cells e.content) _ HCA.out.eh.content Tryz.underlying92 rfl (sizeV6p _) ?_)
    refine HCP.out.mono ?_
    rintro e2 w2 ⟨x', rfl, hrep, hb, _⟩
    have HZ2 := Lib.hid ((hb.block _ (blk_lt HCA.out.z)).trans HCA.out.z)
    have HTH := Lib.hid (there_of_block HZ2.out (n := 6) rfl)
    have HFIN := Lib.hid (setCells_whole (cs := x'.cells) HZ2.out rfl)
    have HBF := Lib.hid (stored_below (r := w.heap.size) (HCA.out.bel.trans (hb.mono HCA.out.bel.size)) (setCells_grown w.heap.size x'.cells.toList 0 w2) (Nat.le_refl _) (HCA.out.bel.trans (hb.mono HCA.out.bel.size)).size)
    have hlt : w.heap.size < wa.heap.size := blk_lt HCA.out.z
    have HRP := Lib.hid ((hrep.stored w.heap.size 0 x'.cells.toList (fun h => absurd h (by omega))).mono (Q := fun g => w.heap.size ≤ g) (fun g _ hg => by have : wa.heap.size ≤ g := hg; omega))
    clear hrep hb
    go_wp2_with (refine wpList_store_v6 rfl _ _ rfl w.heap.size x' rfl rfl HTH.out ?_)
    refine bodyPost_ret (results_row_tmp rfl _ _ w.heap.size 92 x'.cells (0, 0) _ rfl HFIN.out Tryz.underlying92 rfl (sizeV6p _)) rfl ?_
    exact ⟨x', _, rfl, by rw [HCZ.out]; exact HRP.out, HBF.out⟩
  case miss =>
    intro hno
    rw [HES.out] at hno
    have hcz : contZ zs (k1, k2) = nilV := by
      unfold contZ
      rw [List.find?_eq_none.2 (fun z hz he => hno _ (List.mem_map.2 ⟨z, hz, rfl⟩) (same2_iff.1 he))]
      rfl
    have HCZ := Lib.hid hcz
    have HCA := Lib.hid (CtA.mk' (Q := Q) (e := zT) (v := nilV) (show RepV w Q zT.content nilV from RepV.leaf w Q 0 false 0 ⟨#[]⟩))
    generalize nilV = vv at HCA HCZ
    obtain ⟨e, hee⟩ : ∃ e, e = zT := ⟨_, rfl⟩
    rw [← hee] at HCA ⊢
    clear hno hcz hee
    go_upto_region 2 with fail
    obtain ⟨wa, hwa⟩ : ∃ wa : World, wa = World.alloc (w.alloc (.cells (V6.cells zV6) 92)) (.cells e.cells 97) := ⟨_, rfl⟩
    rw [← hwa] at HCA
    have hwa2 := hwa
    rw [HZV.out] at hwa2
    try rw [← hwa2]
    try rw [← hwa]
    have HCP := Lib.hid (copy_calls wa Q e.content vv HCA.out.rep)
    clear hwa hwa2
    go_wp2_with (refine wpList_load_at rfl _ _ rfl _ rfl (V6.cells e.content) _ HCA.out.eh.content Tryz.underlying92 rfl (sizeV6p _) ?_)
    refine HCP.out.mono ?_
    rintro e2 w2 ⟨x', rfl, hrep, hb, _⟩
    have HZ2 := Lib.hid ((hb.block _ (blk_lt HCA.out.z)).trans HCA.out.z)
    have HTH := Lib.hid (there_of_block HZ2.out (n := 6) rfl)
    have HFIN := Lib.hid (setCells_whole (cs := x'.cells) HZ2.out rfl)
    have HBF := Lib.hid (stored_below (r := w.heap.size) (HCA.out.bel.trans (hb.mono HCA.out.bel.size)) (setCells_grown w.heap.size x'.cells.toList 0 w2) (Nat.le_refl _) (HCA.out.bel.trans (hb.mono HCA.out.bel.size)).size)
    have hlt : w.heap.size < wa.heap.size := blk_lt HCA.out.z
    have HRP := Lib.hid ((hrep.stored w.heap.size 0 x'.cells.toList (fun h => absurd h (by omega))).mono (Q := fun g => w.heap.size ≤ g) (fun g _ hg => by have : wa.heap.size ≤ g := hg; omega))
    clear hrep hb
    go_wp2_with (refine wpList_store_v6 rfl _ _ rfl w.heap.size x' rfl rfl HTH.out ?_)
    refine bodyPost_ret (results_row_tmp rfl _ _ w.heap.size 92 x'.cells (0, 0) _ rfl HFIN.out Tryz.underlying92 rfl (sizeV6p _)) rfl ?_
    exact ⟨x', _, rfl, by rw [HCZ.out]; exact HRP.out, HBF.out⟩
end Go.Proofs.YtgnoaeldmpbjmaaGreatDoor
