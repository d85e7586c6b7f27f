/- All that are shown, in order; a room's place; the document's summary, as the program's. -/
import Derived.Test.YtmhhoaaoofopfaaLu
import Derived.Lib.LazyBuf
import Derived.Laws.Rows
set_option linter.unusedVariables false
set_option linter.unusedSimpArgs false
namespace Go.Proofs.Ytmhhoaaoofopfaa
open Go.RowKit

theorem own_src {w : World} {base g cap : Nat} {l : List Sm} (h : w.ownsRow base 35 10 (.slice (some ⟨g, 0, none⟩) l.length cap) l.length (smc l).flatten) : Src w 10 (some ⟨g, 0, none⟩) l.length cap (smc l) := by
  refine ⟨by simp, smc_len l, smc_one l, .inr ⟨_, rfl, fun j u hj => ?_⟩⟩
  have hjl : j < (smc l).flatten.length := (List.getElem?_eq_some_iff.1 hj).1
  rw [smc_flat] at hjl
  have e : (⟨g, 0, none⟩ : Addr).add j = ⟨g, j, none⟩ := by unfold Addr.add; split <;> simp_all
  rw [e, World.ownsRow.cellAt h j hjl]
  exact hj
set_option maxRecDepth 100000 in
theorem clone_calls (w : World) (v : Value) (l : List Sm) (hown : w.ownsRow 0 35 10 v l.length (smc l).flatten) (hn : l.length ≤ 100000) :
    Calls Try.prog 15 #[v] w fun e w' => ∃ s : Sl, e = .returned s.val ∧ RowOf w' (fun i => w.heap.size ≤ i) 35 10 s (smc l) ∧ Below w.heap.size w w' := by
  have heq := fun (W : World) (a : Option Addr) (n c : Nat) => run_eql_slice_nil (P := Try.prog) W 37 35 a n c Try.underlying37
  obtain ⟨i0, hi, hz0, hz1, hz2⟩ := info_parts infoSm
  have HI := Lib.hid hi
  have HZ0 := Lib.hid hz0
  have HZ1 := Lib.hid hz1
  have HZ2 := Lib.hid hz2
  clear hi hz0 hz1 hz2
  rcases hown.2 with ⟨rfl, h0⟩ | ⟨g, cap, cur, rfl, _, hcell, _, _, _, _⟩
  · have hl0 : l = [] := List.length_eq_zero_iff.1 h0
    subst hl0
    clear hown h0
    go_enter Try.func15, Try.ntmps15
    go_wp2_with fail
    go_ret
    exact ⟨⟨none, 0, 0⟩, rfl, ⟨rfl, by simp, .inl ⟨rfl, rfl⟩⟩, Below.refl _ _⟩
  · have HSRC := Lib.hid (own_src hown)
    have HG := Lib.hid (blk_lt hcell)
    clear hown hcell
    go_enter Try.func15, Try.ntmps15
    go_wp2_with (at_builtin; refine wpList_append_src _ rfl _ _ 37 rfl w.heap.size 35 i0 _ 10 128 Try.underlying37 HI.out HZ0.out HZ1.out HZ2.out rfl (by decide) _ 0 [] rfl ⟨rfl, .inr ⟨w.heap.size, 0, #[], rfl, Nat.le_refl _, by exact heap_new _ _, by omega, by decide, rfl, rfl⟩⟩ (some ⟨g, 0, none⟩) l.length cap (smc l) rfl ?c1 ?c3 ?c4 ?c5 ?_)
    case c1 =>
      obtain ⟨h1, h2, h3, h4⟩ := HSRC.out
      refine ⟨h1, h2, h3, ?_⟩
      rcases h4 with ⟨e, _⟩ | ⟨ad, e, h5⟩
      · cases e
      · obtain rfl := Option.some.inj e
        exact .inr ⟨_, rfl, fun j u hj => (World.cell?_of_block (heap_old_at _ _ _ (by rw [block_add]; exact HG.out))).trans (h5 j u hj)⟩
    case c3 => unfold maxLen; omega
    case c4 => omega
    case c5 => simp
    intro a4 c4 w4 ho4 hg4 hv4
    obtain ⟨s, hs, hrow⟩ := RowOf.of_own (l := smc l) (by simpa using ho4) (smc_len l) (by decide) (by simp; omega)
    have HROW := Lib.hid hrow
    have HS := Lib.hid hs
    have HB4 := Lib.hid (((Below.refl w.heap.size w).alloc (Nat.le_refl _) (.cells #[] 35)).grown hg4 (by simp) (fun j hj => by simp [Value.ownBlock] at hj; omega))
    clear ho4 hg4 hv4 hrow hs
    go_wp2_with fail
    go_ret
    exact ⟨s, by first | exact congrArg Ending.returned HS.out | (simp only [Nat.zero_add] at *; exact congrArg Ending.returned HS.out), HROW.out, HB4.out⟩
set_option maxRecDepth 100000 in
theorem lall_calls {w : World} {P : Nat → Prop} {g bk bs : Nat} {v : Value} {most : Int} {kn sh : List (ByteArray × Value)} {od : List Sm} (h : LsAt w P g bk bs v most kn sh od) (hl : od.length ≤ 100000) :
    Calls Try.prog 9 #[.pointer (some ⟨g, 0, none⟩)] w fun e w' => ∃ s : Sl, e = .returned s.val ∧ RowOf w' (fun i => w.heap.size ≤ i) 35 10 s (smc od) ∧ Below w.heap.size w w' := by
  have c3 : w.cell? ⟨g, 3, none⟩ = some v := cell_at (j := 3) h.h rfl
  have HC := Lib.hid (clone_calls w v od h.o hl)
  obtain ⟨a4, n4, c4, rfl⟩ : ∃ a4 n4 c4, v = .slice a4 n4 c4 := by
    rcases h.o.2 with ⟨h1, _⟩ | ⟨gg, cap, cur, h1, _⟩
    · exact ⟨_, _, _, h1⟩
    · exact ⟨_, _, _, h1⟩
  clear h
  go_enter Try.func9, Try.ntmps9
  go_wp2_with fail
  refine HC.out.mono ?_
  rintro e w1 ⟨s, rfl, hr, hb⟩
  have HR := Lib.hid hr
  have HB := Lib.hid hb
  clear hr hb HC c3
  go_wp2_with fail
  go_ret
  exact ⟨s, rfl, HR.out, HB.out⟩
theorem res_Sm {fn : Func} {p : Tmp} (h : fn.results = #[.cell p 35]) (tmps : Array Value) (w : World) (g : Nat) (x : Sm) (hp : tmps.getD p undef = .pointer (some ⟨g, 0, none⟩))
    (hg : w.heap[g]? = some (.cells x.cells 35 (0, 0))) : (results fn tmps).run Try.prog w = .ok (.agg x.cells) w :=
  results_cell_row h tmps w g 35 x.cells (0, 0) _ hp hg Try.underlying35 rfl (sizeSm x)
set_option maxRecDepth 100000 in
set_option maxHeartbeats 4000000 in
theorem real15_calls (w : World) (x : Sm) : Calls Try.prog 8 #[.agg x.cells] w fun e w' => e = .returned (.agg x.cells) ∧ Below w.heap.size w w' := by
  go_enter Try.func8, Try.ntmps8
  go_wp2_with fail
  refine bodyPost_ret (res_Sm rfl _ _ (w.heap.size + 1) x rfl (heap_new_at _ _ _ (by simp))) rfl ?_
  exact ⟨rfl, ((Below.refl _ _).alloc (Nat.le_refl _) _).alloc (by simp) _⟩
set_option maxRecDepth 100000 in
set_option maxHeartbeats 4000000 in
theorem rank_calls {w : World} {P : Nat → Prop} {g bk bs : Nat} {v : Value} {most : Int} {kn sh : List (ByteArray × Value)} {od : List Sm} (h : LsAt w P g bk bs v most kn sh od) (r : ByteArray) (hr : r.size ≤ maxLen) (x : Sm) (hk : getS kn r = some (.agg x.cells)) (hl : od.length ≤ 100000) (hf : foundS x od = true) :
    Calls Try.prog 10 #[.pointer (some ⟨g, 0, none⟩), .string r] w fun e w' => e = .returned (.int .i64 (posS x od)) ∧ Below w.heap.size w w' := by
  have c1 : w.cell? ⟨g, 1, none⟩ = some (.map (some bk)) := cell_at (j := 1) h.h rfl
  have HK := Lib.hid h.k
  have HV := Lib.hid (show (getS kn r).getD (.agg zSm.cells) = .agg x.cells by rw [hk]; rfl)
  have HOK := Lib.hid (show (getS kn r).isSome = true by rw [hk]; rfl)
  obtain ⟨w1, hw1⟩ : ∃ w1 : World, w1 = w.alloc (.cells x.cells 35) := ⟨_, rfl⟩
  have hb1 : Below w.heap.size w w1 := by rw [hw1]; exact (Below.refl _ _).alloc (Nat.le_refl _) _
  have HX1 := Lib.hid (show w1.heap[w.heap.size]? = some (.cells x.cells 35 (0, 0)) by rw [hw1]; exact heap_new_at _ _ _ rfl)
  have HH1 := Lib.hid (h.below hb1)
  have HB1 := Lib.hid hb1
  have HW1 := Lib.hid hw1
  have HF := Lib.hid hf
  have d3 : w1.cell? ⟨g, 3, none⟩ = some v := cell_at (j := 3) HH1.out.h rfl
  have hgl1 := blk_lt HH1.out.h
  clear hb1 hw1 hk h hf
  go_enter Try.func10, Try.ntmps10
  go_upto_region 2 with (at_lookup; refine lookupS_ok _ rfl _ _ 42 rfl 9 35 Try.underlying9 Try.underlying42 (.agg zSm.cells) (zeroSm _) bk kn rfl HK.out r rfl hr _ _ HV.out HOK.out ?_)
  rw [← HW1.out]
  clear c1
  have hxl := blk_lt HX1.out
  refine wt_start (S := fun W => Below w1.heap.size w1 W) 10 (by kernel_rfl) ⟨by kernel_rfl, by kernel_rfl, by kernel_rfl, by decide⟩ ?_
  intro HTK
  have S0 := Lib.hid (show Below w1.heap.size w1 w1.drew from (Below.refl _ _).drew)
  refine wt_take (i := 0) (v := ?_) HTK.out rfl (by decide) (by kernel_rfl) (by kernel_rfl) (fun _ _ _ h => h) (by exact S0.out) (Or.inl ⟨by rfl, ?_⟩) ?_
  rotate_left
  · intro W hSw
    try dsimp only at hSw
    go_simp
    try (with_reducible rfl)
  try simp only [List.getElem_toArray, List.getElem_cons_zero, List.getElem_cons_succ, Act.put, List.setIfInBounds_toArray, List.set_cons_zero, List.set_cons_succ]
  refine wt_take (i := 1) (v := ?_) HTK.out rfl (by decide) (by kernel_rfl) (by kernel_rfl) (fun _ _ _ h => h) (by exact S0.out) (Or.inl ⟨by rfl, ?_⟩) ?_
  rotate_left
  · intro W hSw
    try dsimp only at hSw
    go_simp
    try (with_reducible rfl)
  try simp only [List.getElem_toArray, List.getElem_cons_zero, List.getElem_cons_succ, Act.put, List.setIfInBounds_toArray, List.set_cons_zero, List.set_cons_succ]
  refine wt_take (i := 2) (v := ?_) HTK.out rfl (by decide) (by kernel_rfl) (by kernel_rfl) (fun _ _ _ h => h) (by exact S0.out) (Or.inl ⟨by rfl, ?_⟩) ?_
  rotate_left
  · intro W hSw
    try dsimp only at hSw
    go_simp
    try (with_reducible rfl)
  try simp only [List.getElem_toArray, List.getElem_cons_zero, List.getElem_cons_succ, Act.put, List.setIfInBounds_toArray, List.set_cons_zero, List.set_cons_succ]
  refine wt_take (i := 3) (v := ?_) HTK.out rfl (by decide) (by kernel_rfl) (by kernel_rfl) (fun _ _ _ h => h) (by exact S0.out) (Or.inl ⟨by rfl, ?_⟩) ?_
  rotate_left
  · intro W hSw
    try dsimp only at hSw
    have q0 := (hSw.cell (p := ⟨g, 3, none⟩) (by exact hgl1)).trans d3
    go_simp
    try (with_reducible rfl)
  try simp only [List.getElem_toArray, List.getElem_cons_zero, List.getElem_cons_succ, Act.put, List.setIfInBounds_toArray, List.set_cons_zero, List.set_cons_succ]
  refine wt_take (i := 4) (v := .agg x.cells) HTK.out rfl (by decide) (by kernel_rfl) (by kernel_rfl) (fun _ _ _ h => h) (by exact S0.out) (yieldsIf_load_at (by rfl) _ _ (by rfl) _ (by rfl) x.cells _ (fun W hSw => (Holds.of_block HX1.out).below hSw (by exact hxl)) Try.underlying35 (by rfl) (sizeSm _)) ?_
  try simp only [List.getElem_toArray, List.getElem_cons_zero, List.getElem_cons_succ, Act.put, List.setIfInBounds_toArray, List.set_cons_zero, List.set_cons_succ]
  refine wt_ready (rs := [5]) (by kernel_rfl) (by simp) ?_
  refine AllT.cons rfl (by decide) (fun K hK => ?_) ?_
  · go_simp
    go_at_call 16
    refine (search_calls _ 0 v od x (own_below HH1.out.o S0.out) HH1.out.srt (by omega)).mono ?_
    rintro e w2 ⟨rfl, hbz⟩
    have S1 := Lib.hid (S0.out.trans (hbz.mono S0.out.size))
    clear hbz
    rw [HF.out]
    refine hK.out _ _ (by exact S1.out) ?_
    clear hK K
    try simp only [List.getElem_toArray, List.getElem_cons_zero, List.getElem_cons_succ, Act.put, List.setIfInBounds_toArray, List.set_cons_zero, List.set_cons_succ]
    refine wt_take (i := 6) (v := ?_) HTK.out rfl (by decide) (by kernel_rfl) (by kernel_rfl) (fun _ _ _ h => h) (by exact S1.out) (Or.inl ⟨by rfl, ?_⟩) ?_
    rotate_left
    · intro W hSw
      try dsimp only at hSw
      go_simp
      try (with_reducible rfl)
    try simp only [List.getElem_toArray, List.getElem_cons_zero, List.getElem_cons_succ, Act.put, List.setIfInBounds_toArray, List.set_cons_zero, List.set_cons_succ]
    refine wt_take (i := 7) (v := ?_) HTK.out rfl (by decide) (by kernel_rfl) (by kernel_rfl) (fun _ _ _ h => h) (by exact S1.out) (Or.inl ⟨by rfl, ?_⟩) ?_
    rotate_left
    · intro W hSw
      try dsimp only at hSw
      go_simp
      try (with_reducible rfl)
    try simp only [List.getElem_toArray, List.getElem_cons_zero, List.getElem_cons_succ, Act.put, List.setIfInBounds_toArray, List.set_cons_zero, List.set_cons_succ]
    refine wt_take (i := 8) (v := ?_) HTK.out rfl (by decide) (by kernel_rfl) (by kernel_rfl) (fun _ _ _ h => h) (by exact S1.out) (Or.inl ⟨by rfl, ?_⟩) ?_
    rotate_left
    · intro W hSw
      try dsimp only at hSw
      go_simp
      try (with_reducible rfl)
    try simp only [List.getElem_toArray, List.getElem_cons_zero, List.getElem_cons_succ, Act.put, List.setIfInBounds_toArray, List.set_cons_zero, List.set_cons_succ]
    refine wt_take (i := 9) (v := ?_) HTK.out rfl (by decide) (by kernel_rfl) (by kernel_rfl) (fun _ _ _ h => h) (by exact S1.out) (Or.inl ⟨by rfl, ?_⟩) ?_
    rotate_left
    · intro W hSw
      try dsimp only at hSw
      go_simp
      try (with_reducible rfl)
    try simp only [List.getElem_toArray, List.getElem_cons_zero, List.getElem_cons_succ, Act.put, List.setIfInBounds_toArray, List.set_cons_zero, List.set_cons_succ]
    refine wt_last (k := 10) (by kernel_rfl) (by kernel_rfl) (by decide) rfl (fun K hK => ?_)
    go_simp
    refine hK.out _ _ ?_
    clear hK K
    try simp only [List.getElem_toArray, List.getElem_cons_zero, List.getElem_cons_succ, Act.put, List.setIfInBounds_toArray, List.set_cons_zero, List.set_cons_succ]
    go_wp2_with fail
    go_ret
    exact ⟨rfl, HB1.out.trans (S1.out.mono HB1.out.size)⟩
  exact AllT.nil
end Go.Proofs.Ytmhhoaaoofopfaa
