/- A room is put into the order, if it is shown, and known. -/
import Derived.Test.YtmhhoaaoofopfaaLr
set_option linter.unusedVariables false
set_option linter.unusedSimpArgs false
namespace Go.Proofs.Ytmhhoaaoofopfaa
open Go.RowKit

theorem zeroSm (w : World) : (zeroValue 35).run Try.prog w = .ok (.agg zSm.cells) w := by kernel_rfl
theorem run_lookupS {P : Program} {w : World} (t k e : TypeId) (hk : P.underlying k = some .string) (ht : P.underlying t = some (.map k e)) (z : Value) (hz : (zeroValue e).run P w = .ok z w) (b : Nat) (l : List (ByteArray × Value)) (hown : MapS w P k b l) (key : ByteArray) (hsz : key.size ≤ maxLen) (v : Value) (hv : (getS l key).getD z = v) :
    (Instr.lookup t (.map (some b)) (.string key) false).run P w = .ok v w := by
  obtain ⟨v', ps, hrun, hv'⟩ := World.ownsMap.lookup (H := Value) hown (Maps.string_keyed hk) ht hz (zd := .held z) (zp := []) rfl (key := .string key) (kl := lk key) (Go.WideMaps.keyOf_string_mk hk hsz)
  rw [MD_atKey, hv] at hv'
  unfold hR at hv'
  injection hv' with h1
  injection h1 with h1 _
  injection h1 with h1
  rw [← h1]
  exact hrun
def inL (kx : Option Sm) (so : Bool) (od : List Sm) : List Sm := match kx, so with
  | some x, true => insS_ (posS x od) x od
  | _, _ => od
theorem ins_flat (i : Nat) (x : Sm) (l : List Sm) : (smc (insS_ i x l)).flatten = (smc l).flatten.take (i * 10) ++ x.cells.toList ++ (smc l).flatten.drop (i * 10) := by
  have h : ∀ (l : List Sm) (i : Nat), (smc (l.take i)).flatten = (smc l).flatten.take (i * 10) ∧ (smc (l.drop i)).flatten = (smc l).flatten.drop (i * 10) := by
    intro l
    induction l with
    | nil => intro i; simp
    | cons y l ih =>
      intro i
      cases i with
      | zero => simp
      | succ i =>
        obtain ⟨h1, h2⟩ := ih i
        have e : (i + 1) * 10 = y.cells.toList.length + i * 10 := by show (i + 1) * 10 = 10 + i * 10; omega
        constructor
        · show (y.cells.toList :: smc (l.take i)).flatten = (y.cells.toList :: smc l).flatten.take ((i + 1) * 10)
          rw [List.flatten_cons, List.flatten_cons, h1, e, List.take_length_add_append]
        · show (smc (l.drop i)).flatten = (y.cells.toList :: smc l).flatten.drop ((i + 1) * 10)
          rw [List.flatten_cons, h2, e, List.drop_length_add_append]
  unfold insS_
  rw [smc, List.map_append, List.map_cons, List.flatten_append, List.flatten_cons]
  obtain ⟨h1, h2⟩ := h l i
  rw [← h1, ← h2, List.append_assoc]
set_option maxRecDepth 100000 in
set_option maxHeartbeats 4000000 in
theorem in_calls {w : World} {P : Nat → Prop} {g bk bs : Nat} {v : Value} {most : Int} {kn sh : List (ByteArray × Value)} {od : List Sm} (h : LsAt w P g bk bs v most kn sh od) (r : ByteArray) (hr : r.size ≤ maxLen) (kx : Option Sm) (hk : getS kn r = kx.map fun x => .agg x.cells) (so : Bool) (hso : getS sh r = if so then some (.int .i64 1) else none) (hl : od.length ≤ 100000) :
    Calls Try.prog 13 #[.pointer (some ⟨g, 0, none⟩), .string r] w fun e w' => e = .returned (.tuple #[]) ∧ ∃ v', LsAt w' (fun i => P i ∨ w.heap.size ≤ i) g bk bs v' most kn sh (inL kx so od) ∧ Fr P w w' := by
  have c1 : w.cell? ⟨g, 1, none⟩ = some (.map (some bk)) := cell_at (j := 1) h.h rfl
  have c2 : w.cell? ⟨g, 2, none⟩ = some (.map (some bs)) := cell_at (j := 2) h.h rfl
  have c3 : w.cell? ⟨g, 3, none⟩ = some v := cell_at (j := 3) h.h rfl
  have hgl := blk_lt h.h
  have HK := Lib.hid h.k
  have HS := Lib.hid h.s
  have HH := Lib.hid h
  obtain ⟨x0, hx0⟩ : ∃ x0, x0 = kx.getD zSm := ⟨_, rfl⟩
  have HV := Lib.hid (show (getS kn r).getD (.agg zSm.cells) = .agg x0.cells by rw [hk, hx0]; cases kx <;> rfl)
  cases kx with
  | none =>
    have HOK := Lib.hid (show (getS kn r).isSome = false by rw [hk]; rfl)
    clear hk hso h hx0
    go_enter Try.func13, Try.ntmps13
    go_wp2_with (at_lookup; refine lookupS_ok _ rfl _ _ 42 rfl 9 35 Try.underlying9 Try.underlying42 (.agg zSm.cells) (zeroSm _) bk kn rfl HK.out r rfl hr _ _ HV.out HOK.out ?_)
    refine bodyPost_ret (results_none rfl _ _ _) rfl ?_
    have hb : Below w.heap.size w (w.alloc (.cells x0.cells 35)) := (Below.refl _ _).alloc (Nat.le_refl _) _
    exact ⟨rfl, v, (HH.out.below hb).mono (fun i _ hi => .inl hi), Fr.of_below hb⟩
  | some x =>
    have hxx : x0 = x := hx0
    subst hxx
    have HOK := Lib.hid (show (getS kn r).isSome = true by rw [hk]; rfl)
    obtain ⟨w1, hw1⟩ : ∃ w1 : World, w1 = w.alloc (.cells x0.cells 35) := ⟨_, rfl⟩
    have hb1 : Below w.heap.size w w1 := by rw [hw1]; exact (Below.refl _ _).alloc (Nat.le_refl _) _
    have HX1 := Lib.hid (show w1.heap[w.heap.size]? = some (.cells x0.cells 35 (0, 0)) by rw [hw1]; exact heap_new_at _ _ _ rfl)
    have HH1 := Lib.hid (h.below hb1)
    have HB1 := Lib.hid hb1
    have HW1 := Lib.hid hw1
    have d1 : w1.cell? ⟨g, 1, none⟩ = some (.map (some bk)) := cell_at (j := 1) HH1.out.h rfl
    have d2 : w1.cell? ⟨g, 2, none⟩ = some (.map (some bs)) := cell_at (j := 2) HH1.out.h rfl
    have d3 : w1.cell? ⟨g, 3, none⟩ = some v := cell_at (j := 3) HH1.out.h rfl
    have hgl1 := blk_lt HH1.out.h
    clear hb1 hw1
    cases so with
    | false =>
      have hlk := run_lookupS (P := Try.prog) (w := w1) 30 9 3 Try.underlying9 Try.underlying30 (.int .i64 0) (by kernel_rfl) bs sh HH1.out.s r hr (.int .i64 0) (by rw [hso]; rfl)
      clear hk hso h hx0
      go_enter Try.func13, Try.ntmps13
      go_upto_region 1 with (at_lookup; refine lookupS_ok _ rfl _ _ 42 rfl 9 35 Try.underlying9 Try.underlying42 (.agg zSm.cells) (zeroSm _) bk kn rfl HK.out r rfl hr _ _ HV.out HOK.out ?_)
      rw [← HW1.out]
      clear c1 c2 c3
      go_wp2_with fail
      refine bodyPost_ret (results_none rfl _ _ _) rfl ?_
      exact ⟨rfl, v, HH1.out.mono (fun i _ hi => .inl hi), Fr.of_below HB1.out⟩
    | true =>
      have hlk := run_lookupS (P := Try.prog) (w := w1) 30 9 3 Try.underlying9 Try.underlying30 (.int .i64 0) (by kernel_rfl) bs sh HH1.out.s r hr (.int .i64 1) (by rw [hso]; rfl)
      clear hk hso h hx0
      go_enter Try.func13, Try.ntmps13
      go_upto_region 1 with (at_lookup; refine lookupS_ok _ rfl _ _ 42 rfl 9 35 Try.underlying9 Try.underlying42 (.agg zSm.cells) (zeroSm _) bk kn rfl HK.out r rfl hr _ _ HV.out HOK.out ?_)
      rw [← HW1.out]
      clear c1 c2 c3
      go_upto_region 2 with fail
      clear hlk d1 d2
      have hxl := blk_lt HX1.out
      refine wt_start (S := fun W => Below w1.heap.size w1 W) 10 (by kernel_rfl) ⟨by kernel_rfl, by kernel_rfl, by kernel_rfl, by decide⟩ ?_
      intro HTK
      have S0 := Lib.hid (show Below w1.heap.size w1 w1.drew from (Below.refl _ _).drew)
      refine wt_take (i := 0) (v := ?_) HTK.out rfl (by decide) (by kernel_rfl) (by kernel_rfl) (fun _ _ _ h => h) (by exact S0.out) (Or.inl ⟨by rfl, ?_⟩) ?_
      rotate_left
      · intro W hSw
        try dsimp only at hSw
        go_simp
        try (with_reducible rfl)
      try simp only [List.getElem_toArray, List.getElem_cons_zero, List.getElem_cons_succ, Act.put, List.setIfInBounds_toArray, List.set_cons_zero, List.set_cons_succ]
      refine wt_take (i := 1) (v := ?_) HTK.out rfl (by decide) (by kernel_rfl) (by kernel_rfl) (fun _ _ _ h => h) (by exact S0.out) (Or.inl ⟨by rfl, ?_⟩) ?_
      rotate_left
      · intro W hSw
        try dsimp only at hSw
        go_simp
        try (with_reducible rfl)
      try simp only [List.getElem_toArray, List.getElem_cons_zero, List.getElem_cons_succ, Act.put, List.setIfInBounds_toArray, List.set_cons_zero, List.set_cons_succ]
      refine wt_take (i := 2) (v := ?_) HTK.out rfl (by decide) (by kernel_rfl) (by kernel_rfl) (fun _ _ _ h => h) (by exact S0.out) (Or.inl ⟨by rfl, ?_⟩) ?_
      rotate_left
      · intro W hSw
        try dsimp only at hSw
        go_simp
        try (with_reducible rfl)
      try simp only [List.getElem_toArray, List.getElem_cons_zero, List.getElem_cons_succ, Act.put, List.setIfInBounds_toArray, List.set_cons_zero, List.set_cons_succ]
      refine wt_take (i := 3) (v := ?_) HTK.out rfl (by decide) (by kernel_rfl) (by kernel_rfl) (fun _ _ _ h => h) (by exact S0.out) (Or.inl ⟨by rfl, ?_⟩) ?_
      rotate_left
      · intro W hSw
        try dsimp only at hSw
        have q0 := (hSw.cell (p := ⟨g, 3, none⟩) (by exact hgl1)).trans d3
        go_simp
        try (with_reducible rfl)
      try simp only [List.getElem_toArray, List.getElem_cons_zero, List.getElem_cons_succ, Act.put, List.setIfInBounds_toArray, List.set_cons_zero, List.set_cons_succ]
      refine wt_take (i := 4) (v := .agg x0.cells) HTK.out rfl (by decide) (by kernel_rfl) (by kernel_rfl) (fun _ _ _ h => h) (by exact S0.out) (yieldsIf_load_at (by rfl) _ _ (by rfl) _ (by rfl) x0.cells _ (fun W hSw => (Holds.of_block HX1.out).below hSw (by exact hxl)) Try.underlying35 (by rfl) (sizeSm _)) ?_
      try simp only [List.getElem_toArray, List.getElem_cons_zero, List.getElem_cons_succ, Act.put, List.setIfInBounds_toArray, List.set_cons_zero, List.set_cons_succ]
      refine wt_ready (rs := [5]) (by kernel_rfl) (by simp) ?_
      refine AllT.cons rfl (by decide) (fun K hK => ?_) ?_
      · go_simp
        go_at_call 16
        refine (search_calls _ 0 v od x0 (own_below HH1.out.o S0.out) HH1.out.srt (by omega)).mono ?_
        rintro e w2 ⟨rfl, hbz⟩
        have S1 := Lib.hid (S0.out.trans (hbz.mono S0.out.size))
        clear hbz
        refine hK.out _ _ (by exact S1.out) ?_
        clear hK K
        try simp only [List.getElem_toArray, List.getElem_cons_zero, List.getElem_cons_succ, Act.put, List.setIfInBounds_toArray, List.set_cons_zero, List.set_cons_succ]
        refine wt_take (i := 6) (v := ?_) HTK.out rfl (by decide) (by kernel_rfl) (by kernel_rfl) (fun _ _ _ h => h) (by exact S1.out) (Or.inl ⟨by rfl, ?_⟩) ?_
        rotate_left
        · intro W hSw
          try dsimp only at hSw
          go_simp
          try (with_reducible rfl)
        try simp only [List.getElem_toArray, List.getElem_cons_zero, List.getElem_cons_succ, Act.put, List.setIfInBounds_toArray, List.set_cons_zero, List.set_cons_succ]
        refine wt_take (i := 7) (v := ?_) HTK.out rfl (by decide) (by kernel_rfl) (by kernel_rfl) (fun _ _ _ h => h) (by exact S1.out) (Or.inl ⟨by rfl, ?_⟩) ?_
        rotate_left
        · intro W hSw
          try dsimp only at hSw
          go_simp
          try (with_reducible rfl)
        try simp only [List.getElem_toArray, List.getElem_cons_zero, List.getElem_cons_succ, Act.put, List.setIfInBounds_toArray, List.set_cons_zero, List.set_cons_succ]
        refine wt_take (i := 8) (v := ?_) HTK.out rfl (by decide) (by kernel_rfl) (by kernel_rfl) (fun _ _ _ h => h) (by exact S1.out) (Or.inl ⟨by rfl, ?_⟩) ?_
        rotate_left
        · intro W hSw
          try dsimp only at hSw
          go_simp
          try (with_reducible rfl)
        try simp only [List.getElem_toArray, List.getElem_cons_zero, List.getElem_cons_succ, Act.put, List.setIfInBounds_toArray, List.set_cons_zero, List.set_cons_succ]
        refine wt_take (i := 9) (v := ?_) HTK.out rfl (by decide) (by kernel_rfl) (by kernel_rfl) (fun _ _ _ h => h) (by exact S1.out) (Or.inl ⟨by rfl, ?_⟩) ?_
        rotate_left
        · intro W hSw
          try dsimp only at hSw
          go_simp
          try (with_reducible rfl)
        try simp only [List.getElem_toArray, List.getElem_cons_zero, List.getElem_cons_succ, Act.put, List.setIfInBounds_toArray, List.set_cons_zero, List.set_cons_succ]
        refine wt_last (k := 10) (by kernel_rfl) (by kernel_rfl) (by decide) rfl (fun K hK => ?_)
        go_simp
        refine hK.out _ _ ?_
        clear hK K
        try simp only [List.getElem_toArray, List.getElem_cons_zero, List.getElem_cons_succ, Act.put, List.setIfInBounds_toArray, List.set_cons_zero, List.set_cons_succ]
        go_wp2_with fail
        clear d3
        have HH2 := Lib.hid (HH1.out.below S1.out)
        have d3 : w2.cell? ⟨g, 3, none⟩ = some v := cell_at (j := 3) HH2.out.h rfl
        have hx2 := (S1.out.block _ hxl).trans HX1.out
        have hgl2 := blk_lt HH2.out.h
        have hxl2 := blk_lt hx2
        have HB2 := Lib.hid (HB1.out.trans (S1.out.mono HB1.out.size))
        have hple := pos_le x0 od
        refine wt_start (S := fun W => w2.grownBy W v.ownBlock) 11 (by kernel_rfl) ⟨by kernel_rfl, by kernel_rfl, by kernel_rfl, by decide⟩ ?_
        intro HTK
        have hxv : some w.heap.size ≠ v.ownBlock := fun e => by have := HH.out.vl _ e.symm; omega
        have TB0 := Lib.hid (show Below w2.heap.size w2 w2.drew from (Below.refl _ _).drew)
        obtain ⟨q0w, hq0w⟩ : ∃ wn : World, wn = w2.drew := ⟨_, rfl⟩
        rw [← hq0w] at TB0 ⊢
        clear hq0w
        have T0 := Lib.hid (grown_of_below TB0.out v.ownBlock)
        refine wt_take (i := 0) (v := ?_) HTK.out rfl (by decide) (by kernel_rfl) (by kernel_rfl) (fun _ _ _ h => h) (by exact T0.out) (Or.inl ⟨by rfl, ?_⟩) ?_
        rotate_left
        · intro W hSw
          try dsimp only at hSw
          go_simp
          try (with_reducible rfl)
        try simp only [List.getElem_toArray, List.getElem_cons_zero, List.getElem_cons_succ, Act.put, List.setIfInBounds_toArray, List.set_cons_zero, List.set_cons_succ]
        refine wt_take (i := 1) (v := ?_) HTK.out rfl (by decide) (by kernel_rfl) (by kernel_rfl) (fun _ _ _ h => h) (by exact T0.out) (Or.inl ⟨by rfl, ?_⟩) ?_
        rotate_left
        · intro W hSw
          try dsimp only at hSw
          go_simp
          try (with_reducible rfl)
        try simp only [List.getElem_toArray, List.getElem_cons_zero, List.getElem_cons_succ, Act.put, List.setIfInBounds_toArray, List.set_cons_zero, List.set_cons_succ]
        refine wt_take (i := 2) (v := ?_) HTK.out rfl (by decide) (by kernel_rfl) (by kernel_rfl) (fun _ _ _ h => h) (by exact T0.out) (Or.inl ⟨by rfl, ?_⟩) ?_
        rotate_left
        · intro W hSw
          try dsimp only at hSw
          go_simp
          try (with_reducible rfl)
        try simp only [List.getElem_toArray, List.getElem_cons_zero, List.getElem_cons_succ, Act.put, List.setIfInBounds_toArray, List.set_cons_zero, List.set_cons_succ]
        refine wt_take (i := 3) (v := ?_) HTK.out rfl (by decide) (by kernel_rfl) (by kernel_rfl) (fun _ _ _ h => h) (by exact T0.out) (Or.inl ⟨by rfl, ?_⟩) ?_
        rotate_left
        · intro W hSw
          try dsimp only at hSw
          go_simp
          try (with_reducible rfl)
        try simp only [List.getElem_toArray, List.getElem_cons_zero, List.getElem_cons_succ, Act.put, List.setIfInBounds_toArray, List.set_cons_zero, List.set_cons_succ]
        refine wt_take (i := 4) (v := ?_) HTK.out rfl (by decide) (by kernel_rfl) (by kernel_rfl) (fun _ _ _ h => h) (by exact T0.out) (Or.inl ⟨by rfl, ?_⟩) ?_
        rotate_left
        · intro W hSw
          try dsimp only at hSw
          have q0 := (World.cell?_of_block (a := ⟨g, 3, none⟩) (hSw.block g hgl2 (fun e => HH2.out.nv e.symm))).trans d3
          go_simp
          try (with_reducible rfl)
        try simp only [List.getElem_toArray, List.getElem_cons_zero, List.getElem_cons_succ, Act.put, List.setIfInBounds_toArray, List.set_cons_zero, List.set_cons_succ]
        refine wt_take (i := 5) (v := ?_) HTK.out rfl (by decide) (by kernel_rfl) (by kernel_rfl) (fun _ _ _ h => h) (by exact T0.out) (Or.inl ⟨by rfl, ?_⟩) ?_
        rotate_left
        · intro W hSw
          try dsimp only at hSw
          go_simp
          try (with_reducible rfl)
        try simp only [List.getElem_toArray, List.getElem_cons_zero, List.getElem_cons_succ, Act.put, List.setIfInBounds_toArray, List.set_cons_zero, List.set_cons_succ]
        refine wt_take (i := 6) (v := .agg x0.cells) HTK.out rfl (by decide) (by kernel_rfl) (by kernel_rfl) (fun _ _ _ h => h) (by exact T0.out) (yieldsIf_load_at (by rfl) _ _ (by rfl) _ (by rfl) x0.cells _ (fun W hSw => Holds.of_block ((hSw.block _ hxl2 hxv).trans hx2)) Try.underlying35 (by rfl) (sizeSm _)) ?_
        try simp only [List.getElem_toArray, List.getElem_cons_zero, List.getElem_cons_succ, Act.put, List.setIfInBounds_toArray, List.set_cons_zero, List.set_cons_succ]
        refine wt_ready (rs := [7]) (by kernel_rfl) (by simp) ?_
        refine AllT.cons rfl (by decide) (fun K hK => ?_) ?_
        · go_simp
          obtain ⟨wb, hwb⟩ : ∃ wb : World, wb = q0w.alloc (.cells x0.cells 35) := ⟨_, rfl⟩
          have TB1 := Lib.hid (show Below w2.heap.size w2 wb by rw [hwb]; exact TB0.out.alloc TB0.out.size _)
          have T1 := Lib.hid (grown_of_below TB1.out v.ownBlock)
          have HXB := Lib.hid (show wb.heap[q0w.heap.size]? = some (.cells x0.cells 35 (0, 0)) by rw [hwb]; exact heap_new_at _ _ _ rfl)
          have HHB := Lib.hid (HH2.out.below TB1.out)
          have HQV := Lib.hid (show v.ownBlock ≠ some q0w.heap.size from fun e => by have := HH2.out.vl _ e; have := TB0.out.size; omega)
          rw [show World.alloc _ _ = wb from hwb.symm]
          clear hwb
          refine hK.out _ _ (by exact T1.out) ?_
          clear hK K
          try simp only [List.getElem_toArray, List.getElem_cons_zero, List.getElem_cons_succ, Act.put, List.setIfInBounds_toArray, List.set_cons_zero, List.set_cons_succ]
          refine wt_ready (rs := [8]) (by kernel_rfl) (by simp) ?_
          refine AllT.cons rfl (by decide) (fun K hK => ?_) ?_
          · go_simp
            go_at_call 21
            refine (insert_calls wb 0 od.length (posS x0 od) q0w.heap.size v (smc od).flatten x0 HHB.out.o hple (by omega) (Nat.zero_le _) HXB.out HQV.out (smc_one od)).mono ?_
            rintro e wi ⟨v', rfl, ho, hg, hv⟩
            obtain ⟨a4, n4, c4, rfl⟩ : ∃ a4 n4 c4, v' = .slice a4 n4 c4 := by
              rcases ho.2 with ⟨h1, _⟩ | ⟨gg, cap, cur, h1, _⟩
              · exact ⟨_, _, _, h1⟩
              · exact ⟨_, _, _, h1⟩
            have T2 := Lib.hid (grown_trans T1.out hg)
            have hgi := (hg.block g (blk_lt HHB.out.h) (fun e => HHB.out.nv e.symm)).trans HHB.out.h
            have e3 : wi.cell? ⟨g, 3, none⟩ = some v := cell_at (j := 3) hgi rfl
            have ez : ∀ j, wi.frozen? ⟨g, j, none⟩ = false := fun j => frozen_at hgi
            have hvl : ∀ r, (Value.slice a4 n4 c4).ownBlock = some r → r < wi.heap.size := fun r er => by
              rcases ho.2 with ⟨h1, _⟩ | ⟨gg, cap, cur, h1, _, h2, _⟩
              · rw [h1] at er; cases er
              · rw [h1] at er
                obtain rfl := Option.some.inj er
                exact blk_lt h2
            have hol : (insS_ (posS x0 od) x0 od).length = od.length + 1 := by
              have := (ins_perm (posS x0 od) x0 od).length_eq
              rw [this, List.length_cons]
            have HFIN := Lib.hid (HHB.out.ins hg (od' := insS_ (posS x0 od) x0 od) (B := w.heap.size) (by rw [hol, ins_flat]; exact ho) hv hvl (ins_sorted HHB.out.srt) (Nat.le_trans HB2.out.size TB1.out.size))
            clear ho hg hv hvl hol hgi
            refine hK.out _ _ (by exact T2.out) ?_
            clear hK K
            try simp only [List.getElem_toArray, List.getElem_cons_zero, List.getElem_cons_succ, Act.put, List.setIfInBounds_toArray, List.set_cons_zero, List.set_cons_succ]
            refine wt_take (i := 9) (v := ?_) HTK.out rfl (by decide) (by kernel_rfl) (by kernel_rfl) (fun _ _ _ h => h) (by exact T2.out) (Or.inl ⟨by rfl, ?_⟩) ?_
            rotate_left
            · intro W hSw
              try dsimp only at hSw
              go_simp
              try (with_reducible rfl)
            try simp only [List.getElem_toArray, List.getElem_cons_zero, List.getElem_cons_succ, Act.put, List.setIfInBounds_toArray, List.set_cons_zero, List.set_cons_succ]
            refine wt_take (i := 10) (v := ?_) HTK.out rfl (by decide) (by kernel_rfl) (by kernel_rfl) (fun _ _ _ h => h) (by exact T2.out) (Or.inl ⟨by rfl, ?_⟩) ?_
            rotate_left
            · intro W hSw
              try dsimp only at hSw
              go_simp
              try (with_reducible rfl)
            try simp only [List.getElem_toArray, List.getElem_cons_zero, List.getElem_cons_succ, Act.put, List.setIfInBounds_toArray, List.set_cons_zero, List.set_cons_succ]
            refine wt_last (k := 11) (by kernel_rfl) (by kernel_rfl) (by decide) rfl (fun K hK => ?_)
            go_simp
            refine hK.out _ _ ?_
            clear hK K
            try simp only [List.getElem_toArray, List.getElem_cons_zero, List.getElem_cons_succ, Act.put, List.setIfInBounds_toArray, List.set_cons_zero, List.set_cons_succ]
            go_wp2_with fail

            refine bodyPost_end (results_none rfl _ _ _) rfl ?_
            exact ⟨rfl, _, HFIN.out.1, (Fr.of_below (HB2.out.trans (TB1.out.mono HB2.out.size))).trans HFIN.out.2⟩
          exact AllT.nil
        exact AllT.nil
      exact AllT.nil
end Go.Proofs.Ytmhhoaaoofopfaa
