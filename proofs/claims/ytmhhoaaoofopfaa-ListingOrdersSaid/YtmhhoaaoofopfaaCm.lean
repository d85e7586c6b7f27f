/- listing.ahead: by how many are joined, then by names. -/
import Derived.Test.YtmhhoaaoofopfaaLo
import Derived.Test.YtmhhoaaoofopfaaShelf
import Derived.Test.YtmhhoaaoofopfaaWt
import Derived.Test.YtmhhoaaoofopfaaBw
import Derived.Test.YtmhhoaaoofopfaaLd
import Derived.Deep.DeepCutAuto
set_option linter.unusedVariables false
set_option linter.unusedSimpArgs false
namespace Go.Proofs.Ytmhhoaaoofopfaa
open Go.RowKit

theorem cmpI_of (x y : Int) : Lib.compareInt x y = cmpI x y := by
  unfold Lib.compareInt cmpI
  by_cases h1 : x < y
  · simp [h1]
  · by_cases h2 : x = y
    · simp [h2]
    · rw [if_neg h1, if_neg h1, if_pos (by omega), if_neg h2]
theorem cmpL_of : ∀ a b : List UInt8, Lib.compareBytes a b = if Op.bytesLess a b then -1 else if a == b then 0 else 1
  | [], [] => by simp [Lib.compareBytes, Op.bytesLess]
  | [], _ :: _ => by simp [Lib.compareBytes, Op.bytesLess]
  | _ :: _, [] => by simp [Lib.compareBytes, Op.bytesLess]
  | a :: as_, b :: bs => by
    have ih := cmpL_of as_ bs
    unfold Lib.compareBytes Op.bytesLess
    by_cases h1 : a < b
    · simp [h1]
    · by_cases h2 : b < a
      · have h3 : a ≠ b := fun e => by subst e; exact h1 h2
        simp [h1, h2, h3]
      · have h3 : a = b := by
          have e1 := UInt8.not_lt.1 h1
          have e2 := UInt8.not_lt.1 h2
          exact UInt8.le_antisymm e2 e1
        subst h3
        rw [if_neg h1, if_neg h1, ih]
        simp [h1]
theorem cmpB_of (a b : ByteArray) : Lib.compareBytes a.data.toList b.data.toList = cmpB a b := by
  rw [cmpL_of]
  unfold cmpB
  rw [ByteArray.toList_eq, ByteArray.toList_eq]
set_option maxRecDepth 100000 in
theorem or_calls (w : World) (g : Nat) (a b : Int) (h : w.heap[g]? = some (.cells #[.int .i64 a, .int .i64 b] 3 (0, 0))) :
    Calls Try.prog 23 #[.slice (some ⟨g, 0, none⟩) 2 2] w fun e w' => e = .returned (.int .i64 (orI a b)) ∧ Below w.heap.size w w' := by
  have c0 : w.cell? ⟨g, 0, none⟩ = some (.int .i64 a) := cell_at (j := 0) h rfl
  have c1 : w.cell? ⟨g, 1, none⟩ = some (.int .i64 b) := cell_at (j := 1) h rfl
  clear h
  go_enter Try.func23, Try.ntmps23
  go_wp2_with fail
  go_loopw [8] (fun c8 wr => ∃ k : Nat, k ≤ 2 ∧ c8 = .int .i64 k ∧ (0 < k → a = 0) ∧ (1 < k → b = 0) ∧ wr = w) (fun c8 _ => 2 - (intOf c8).toNat)
  case atStart => exact ⟨0, by omega, rfl, by omega, by omega, rfl⟩
  case round =>
    obtain ⟨k, hk, rfl, ha, hb, rfl⟩ := hrel
    have HA := Lib.hid ha
    have HB := Lib.hid hb
    clear ha hb
    match k, hk with
    | 0, _ =>
      by_cases h0 : a = 0
      · have h1 : (a != 0) = false := by simp [h0]
        go_wp2_with fail
        exact ⟨⟨1, by omega, rfl, fun _ => h0, by omega, (by first | rfl | trivial)⟩, by simp [intOf]⟩
      · have h1 : (a != 0) = true := by simp [h0]
        go_wp2_with fail
        go_ret
        exact ⟨by unfold orI; rw [if_neg h0]; rfl, Below.refl _ _⟩
    | 1, _ =>
      have ha0 := HA.out (by omega)
      by_cases h0 : b = 0
      · have h1 : (b != 0) = false := by simp [h0]
        go_wp2_with fail
        exact ⟨⟨2, by omega, rfl, fun _ => ha0, fun _ => h0, (by first | rfl | trivial)⟩, by simp [intOf]⟩
      · have h1 : (b != 0) = true := by simp [h0]
        go_wp2_with fail
        go_ret
        exact ⟨by unfold orI; rw [if_pos ha0]; rfl, Below.refl _ _⟩
    | 2, _ =>
      have ha0 := HA.out (by omega)
      have hb0 := HB.out (by omega)
      go_wp2_with fail
      go_ret
      exact ⟨by unfold orI; rw [if_pos ha0, hb0]; rfl, Below.refl _ _⟩
theorem sizeSm (x : Sm) : (Try.prog.info? 35).map (·.size) = some x.cells.size := show _ = some 10 from by kernel_rfl
theorem allSm (x : Sm) : x.cells.all (·.oneCell') = true := Array.all_eq_true_iff_forall_mem.2 (fun v hv => by
  simp at hv
  rcases hv with rfl | rfl | rfl | rfl | rfl | rfl | rfl | rfl | rfl | rfl <;> rfl)
set_option maxRecDepth 100000 in
set_option maxHeartbeats 4000000 in
theorem ahead_calls (w : World) (a b : Sm) : Calls Try.prog 17 #[.agg a.cells, .agg b.cells] w fun e w' => e = .returned (.int .i64 (aheadC a b)) ∧ Below w.heap.size w w' := by
  obtain ⟨w2, hw2⟩ : ∃ w2 : World, w2 = (w.alloc (.cells a.cells 35)).alloc (.cells b.cells 35) := ⟨_, rfl⟩
  have hb2 : Below w.heap.size w w2 := by rw [hw2]; exact ((Below.refl _ _).alloc (Nat.le_refl _) _).alloc (by simp) _
  have hA := (heap_old_at (w.alloc (.cells a.cells 35)) (.cells b.cells 35) w.heap.size (by simp)).trans (heap_new_at w (.cells a.cells 35) _ rfl)
  have hB := heap_new_at (w.alloc (.cells a.cells 35)) (.cells b.cells 35) (w.heap.size + 1) (by simp)
  rw [← hw2] at hA hB
  have a0 : w2.cell? ⟨w.heap.size, 0, none⟩ = some (.string a.room) := cell_at (j := 0) hA rfl
  have a7 : w2.cell? ⟨w.heap.size, 7, none⟩ = some (.int .i64 a.joined) := cell_at (j := 7) hA rfl
  have b0 : w2.cell? ⟨w.heap.size + 1, 0, none⟩ = some (.string b.room) := cell_at (j := 0) hB rfl
  have b7 : w2.cell? ⟨w.heap.size + 1, 7, none⟩ = some (.int .i64 b.joined) := cell_at (j := 7) hB rfl
  have hla := blk_lt hA
  have hlb := blk_lt hB
  have HB2 := Lib.hid hb2
  have HW2 := Lib.hid hw2
  have HAC := Lib.hid (show aheadC a b = orI (cmpI b.joined a.joined) (cmpB a.room b.room) from rfl)
  clear hb2 hw2 hA hB
  go_enter Try.func17, Try.ntmps17
  go_upto_region 1 with fail
  rw [← HW2.out]
  refine wt_start (S := fun W => Below w2.heap.size w2 W) 12 (by kernel_rfl) ⟨by kernel_rfl, by kernel_rfl, by kernel_rfl, by decide⟩ ?_
  intro HTK
  have HS0 := Lib.hid (show Below w2.heap.size w2 w2.drew from (Below.refl _ _).drew)
  obtain ⟨q0w, hq0w⟩ : ∃ wn : World, wn = w2.drew := ⟨_, rfl⟩
  rw [← hq0w] at HS0 ⊢
  clear hq0w
  refine wt_take (i := 0) (v := ?_) HTK.out rfl (by decide) (by kernel_rfl) (by kernel_rfl) (fun _ _ _ h => h) (by exact HS0.out) (Or.inl ⟨by rfl, ?_⟩) ?_
  rotate_left
  · intro W hSw
    try dsimp only at hSw
    go_simp
    try (with_reducible rfl)
  try simp only [List.getElem_toArray, List.getElem_cons_zero, List.getElem_cons_succ, Act.put, List.setIfInBounds_toArray, List.set_cons_zero, List.set_cons_succ]
  refine wt_take (i := 1) (v := ?_) HTK.out rfl (by decide) (by kernel_rfl) (by kernel_rfl) (fun _ _ _ h => h) (by exact HS0.out) (Or.inl ⟨by rfl, ?_⟩) ?_
  rotate_left
  · intro W hSw
    try dsimp only at hSw
    have q0 := (hSw.cell (p := ⟨w.heap.size + 1, 7, none⟩) (by exact hlb)).trans b7
    go_simp
    try (with_reducible rfl)
  try simp only [List.getElem_toArray, List.getElem_cons_zero, List.getElem_cons_succ, Act.put, List.setIfInBounds_toArray, List.set_cons_zero, List.set_cons_succ]
  refine wt_take (i := 2) (v := ?_) HTK.out rfl (by decide) (by kernel_rfl) (by kernel_rfl) (fun _ _ _ h => h) (by exact HS0.out) (Or.inl ⟨by rfl, ?_⟩) ?_
  rotate_left
  · intro W hSw
    try dsimp only at hSw
    go_simp
    try (with_reducible rfl)
  try simp only [List.getElem_toArray, List.getElem_cons_zero, List.getElem_cons_succ, Act.put, List.setIfInBounds_toArray, List.set_cons_zero, List.set_cons_succ]
  refine wt_take (i := 3) (v := ?_) HTK.out rfl (by decide) (by kernel_rfl) (by kernel_rfl) (fun _ _ _ h => h) (by exact HS0.out) (Or.inl ⟨by rfl, ?_⟩) ?_
  rotate_left
  · intro W hSw
    try dsimp only at hSw
    have q0 := (hSw.cell (p := ⟨w.heap.size, 7, none⟩) (by exact hla)).trans a7
    go_simp
    try (with_reducible rfl)
  try simp only [List.getElem_toArray, List.getElem_cons_zero, List.getElem_cons_succ, Act.put, List.setIfInBounds_toArray, List.set_cons_zero, List.set_cons_succ]
  refine wt_take (i := 5) (v := ?_) HTK.out rfl (by decide) (by kernel_rfl) (by kernel_rfl) (fun _ _ _ h => h) (by exact HS0.out) (Or.inl ⟨by rfl, ?_⟩) ?_
  rotate_left
  · intro W hSw
    try dsimp only at hSw
    go_simp
    try (with_reducible rfl)
  try simp only [List.getElem_toArray, List.getElem_cons_zero, List.getElem_cons_succ, Act.put, List.setIfInBounds_toArray, List.set_cons_zero, List.set_cons_succ]
  refine wt_take (i := 6) (v := ?_) HTK.out rfl (by decide) (by kernel_rfl) (by kernel_rfl) (fun _ _ _ h => h) (by exact HS0.out) (Or.inl ⟨by rfl, ?_⟩) ?_
  rotate_left
  · intro W hSw
    try dsimp only at hSw
    have q0 := (hSw.cell (p := ⟨w.heap.size, 0, none⟩) (by exact hla)).trans a0
    go_simp
    try (with_reducible rfl)
  try simp only [List.getElem_toArray, List.getElem_cons_zero, List.getElem_cons_succ, Act.put, List.setIfInBounds_toArray, List.set_cons_zero, List.set_cons_succ]
  refine wt_take (i := 7) (v := ?_) HTK.out rfl (by decide) (by kernel_rfl) (by kernel_rfl) (fun _ _ _ h => h) (by exact HS0.out) (Or.inl ⟨by rfl, ?_⟩) ?_
  rotate_left
  · intro W hSw
    try dsimp only at hSw
    go_simp
    try (with_reducible rfl)
  try simp only [List.getElem_toArray, List.getElem_cons_zero, List.getElem_cons_succ, Act.put, List.setIfInBounds_toArray, List.set_cons_zero, List.set_cons_succ]
  refine wt_take (i := 8) (v := ?_) HTK.out rfl (by decide) (by kernel_rfl) (by kernel_rfl) (fun _ _ _ h => h) (by exact HS0.out) (Or.inl ⟨by rfl, ?_⟩) ?_
  rotate_left
  · intro W hSw
    try dsimp only at hSw
    have q0 := (hSw.cell (p := ⟨w.heap.size + 1, 0, none⟩) (by exact hlb)).trans b0
    go_simp
    try (with_reducible rfl)
  try simp only [List.getElem_toArray, List.getElem_cons_zero, List.getElem_cons_succ, Act.put, List.setIfInBounds_toArray, List.set_cons_zero, List.set_cons_succ]
  refine wt_ready (rs := [4]) (by kernel_rfl) (by simp) ?_
  refine AllT.cons rfl (by decide) (fun K hK => ?_) ?_
  · go_simp
    go_at_call 24
    refine (Try.cmp_Compare_int _ _ _).mono ?_
    rintro e wa ⟨rfl, hwa⟩
    rw [hwa, cmpI_of]
    clear hwa
    refine hK.out _ _ (by exact HS0.out) ?_
    clear hK K
    try simp only [List.getElem_toArray, List.getElem_cons_zero, List.getElem_cons_succ, Act.put, List.setIfInBounds_toArray, List.set_cons_zero, List.set_cons_succ]
    refine wt_ready (rs := [9]) (by kernel_rfl) (by simp) ?_
    refine AllT.cons rfl (by decide) (fun K hK => ?_) ?_
    · go_simp
      go_at_call 25
      refine (Try.strings_Compare _ _ _).mono ?_
      rintro e wb ⟨rfl, hwb⟩
      rw [hwb, cmpB_of]
      clear hwb
      refine hK.out _ _ (by exact HS0.out) ?_
      clear hK K
      try simp only [List.getElem_toArray, List.getElem_cons_zero, List.getElem_cons_succ, Act.put, List.setIfInBounds_toArray, List.set_cons_zero, List.set_cons_succ]
      refine wt_ready (rs := [10]) (by kernel_rfl) (by simp) ?_
      refine AllT.cons rfl (by decide) (fun K hK => ?_) ?_
      · go_simp
        obtain ⟨wc, hwc⟩ : ∃ wc : World, wc = q0w.alloc (.cells #[.int .i64 (cmpI b.joined a.joined), .int .i64 (cmpB a.room b.room)] 3) := ⟨_, rfl⟩
        have HS1 := Lib.hid (show Below w2.heap.size w2 wc by rw [hwc]; exact HS0.out.alloc HS0.out.size _)
        have HC := Lib.hid (show wc.heap[q0w.heap.size]? = some (.cells #[.int .i64 (cmpI b.joined a.joined), .int .i64 (cmpB a.room b.room)] 3 (0, 0)) by rw [hwc]; exact heap_new_at _ _ _ rfl)
        rw [show World.alloc _ _ = wc from hwc.symm]
        clear hwc
        refine hK.out _ _ (by exact HS1.out) ?_
        clear hK K
        try simp only [List.getElem_toArray, List.getElem_cons_zero, List.getElem_cons_succ, Act.put, List.setIfInBounds_toArray, List.set_cons_zero, List.set_cons_succ]
        refine wt_ready (rs := [11]) (by kernel_rfl) (by simp) ?_
        refine AllT.cons rfl (by decide) (fun K hK => ?_) ?_
        · go_simp
          go_at_call 23
          refine (or_calls wc q0w.heap.size _ _ HC.out).mono ?_
          rintro e wd ⟨rfl, hb⟩
          have HS2 := Lib.hid (HS1.out.trans (hb.mono HS1.out.size))
          clear hb
          refine hK.out _ _ (by exact HS2.out) ?_
          clear hK K
          try simp only [List.getElem_toArray, List.getElem_cons_zero, List.getElem_cons_succ, Act.put, List.setIfInBounds_toArray, List.set_cons_zero, List.set_cons_succ]
          refine wt_last (k := 12) (by kernel_rfl) (by kernel_rfl) (by decide) rfl (fun K hK => ?_)
          go_simp
          refine hK.out _ _ ?_
          clear hK K
          try simp only [List.getElem_toArray, List.getElem_cons_zero, List.getElem_cons_succ, Act.put, List.setIfInBounds_toArray, List.set_cons_zero, List.set_cons_succ]
          go_wp2_with fail
          go_ret
          exact ⟨by rw [HAC.out]; rfl, HB2.out.trans (HS2.out.mono HB2.out.size)⟩
        exact AllT.nil
      exact AllT.nil
    exact AllT.nil
  exact AllT.nil
end Go.Proofs.Ytmhhoaaoofopfaa
