/- slices.BinarySearchFunc among summaries in order: the place of one. -/
import Derived.Test.YtmhhoaaoofopfaaIg
import Derived.Deep.Cut
import Derived.Deep.QuietTactic
import Derived.BigQuiet
set_option linter.unusedVariables false
set_option linter.unusedSimpArgs false
namespace Go.Proofs.Ytmhhoaaoofopfaa
open Go.RowKit

abbrev smc (l : List Sm) : List (List Value) := l.map fun x => x.cells.toList
theorem smc_len (l : List Sm) : ∀ x ∈ smc l, x.length = 10 := by
  intro x hx
  obtain ⟨y, _, rfl⟩ := List.mem_map.1 hx
  rfl
theorem smc_flat (l : List Sm) : (smc l).flatten.length = l.length * 10 := by rw [flatten_len (smc_len l), List.length_map]
theorem smc_one (l : List Sm) : ∀ u ∈ (smc l).flatten, u.oneCell' = true := by
  intro u hu
  obtain ⟨x, hx, hxu⟩ := List.mem_flatten.1 hu
  obtain ⟨y, _, rfl⟩ := List.mem_map.1 hx
  exact Array.all_eq_true_iff_forall_mem.1 (allSm y) u (Array.mem_toList_iff.1 hxu)
theorem smc_at {l : List Sm} {k d : Nat} {y : Sm} (hy : l[k]? = some y) (hd : d < 10) : (smc l).flatten[k * 10 + d]? = y.cells[d]? := by
  have := flatten_at (smc_len l) k d y.cells.toList (by simp [hy]) hd
  rw [this, Array.getElem?_toList]
/-- A row of summaries that is one's own: an element, whole. -/
theorem own_holds {w : World} {base g cap n : Nat} {l : List Sm} (h : w.ownsRow base 35 10 (.slice (some ⟨g, 0, none⟩) n cap) n (smc l).flatten) {k : Nat} {y : Sm} (hy : l[k]? = some y) (hk : k < n) : Holds w ⟨g, k * 10, none⟩ y.cells := by
  intro j v hj
  have hj10 : j < 10 := (Array.getElem?_eq_some_iff.1 hj).1
  have e : (⟨g, k * 10, none⟩ : Addr).add j = ⟨g, k * 10 + j, none⟩ := by unfold Addr.add; split <;> simp_all
  rw [e, World.ownsRow.cellAt h (k * 10 + j) (by omega), smc_at hy hj10]
  exact hj
theorem own_block {w : World} {base g cap n : Nat} {xs : List Value} (h : w.ownsRow base 35 10 (.slice (some ⟨g, 0, none⟩) n cap) n xs) : g < w.heap.size := (h.lt (k := g) rfl).2
theorem own_same {w w' : World} {base E sz n : Nat} {v : Value} {xs : List Value} (h : w.ownsRow base E sz v n xs) (hb : ∀ g, g < w.heap.size → v.ownBlock = some g → w'.heap[g]? = w.heap[g]?) : w'.ownsRow base E sz v n xs := by
  refine ⟨h.1, ?_⟩
  rcases h.2 with h0 | ⟨g, cap, cur, hv, h1, h2, h3⟩
  · exact .inl h0
  · exact .inr ⟨g, cap, cur, hv, h1, (hb g (blk_lt h2) (by rw [hv]; rfl)).trans h2, h3⟩
theorem own_below {w w' : World} {base E sz n : Nat} {v : Value} {xs : List Value} (h : w.ownsRow base E sz v n xs) (hb : Below w.heap.size w w') : w'.ownsRow base E sz v n xs := own_same h (fun g hg _ => hb.block g hg)
def foundS (x : Sm) (l : List Sm) : Bool := match l[posS x l]? with
  | some y => aheadC y x == 0
  | none => false
set_option maxRecDepth 100000 in
set_option maxHeartbeats 4000000 in
theorem search_calls (w : World) (base : Nat) (v : Value) (l : List Sm) (x : Sm) (hown : w.ownsRow base 35 10 v l.length (smc l).flatten) (hs : SortS l) (hn : l.length ≤ 1000000) :
    Calls Try.prog 16 #[v, .agg x.cells, .func (.func 17) #[] #[]] w fun e w' => e = .returned (.tuple #[.int .i64 (posS x l), .bool (foundS x l)]) ∧ Below w.heap.size w w' := by
  have hple := pos_le x l
  have HSP := Lib.hid (pos_split (x := x) hs)
  obtain ⟨ps, hps⟩ : ∃ ps, ps = posS x l := ⟨_, rfl⟩
  have HPS := Lib.hid hps
  have HFO := Lib.hid (show foundS x l = match l[ps]? with | some y => aheadC y x == 0 | none => false by rw [hps]; rfl)
  rw [← hps] at hple HSP ⊢
  clear hps hs
  obtain ⟨fo, hfo⟩ : ∃ fo, fo = foundS x l := ⟨_, rfl⟩
  rw [← hfo] at HFO ⊢
  clear hfo
  rcases hown.2 with ⟨rfl, h0⟩ | ⟨g, cap, cur, rfl, _, _, _, _, _, _⟩
  · have hl0 : l = [] := List.length_eq_zero_iff.1 h0
    subst hl0
    have hp0 : ps = 0 := by simpa using hple
    subst hp0
    have hf : fo = false := HFO.out
    subst hf
    clear HSP HFO HPS hown h0 hple
    go_enter Try.func16, Try.ntmps16
    go_wp2_with fail
    go_loopw [9, 10] (fun c9 c10 wr => c9 = .int .i64 0 ∧ c10 = .int .i64 0 ∧ Below w.heap.size w wr) (fun _ _ _ => 0)
    case atStart => exact ⟨rfl, rfl, (Below.refl _ _).alloc (Nat.le_refl _) _⟩
    case round =>
      obtain ⟨rfl, rfl, hb⟩ := hrel
      go_upto_region 8 with fail
      go_quiet (fail)
      go_wp2_with fail
      go_ret2
      exact ⟨rfl, below_drewN' hb _⟩
  · have hgw := own_block hown
    have HOWN := Lib.hid hown
    clear hown
    obtain ⟨w2, hw2⟩ : ∃ w2 : World, w2 = w.alloc (.cells x.cells 35) := ⟨_, rfl⟩
    have hb2 : Below w.heap.size w w2 := by rw [hw2]; exact (Below.refl _ _).alloc (Nat.le_refl _) _
    have HX2 := Lib.hid (show w2.heap[w.heap.size]? = some (.cells x.cells 35 (0, 0)) by rw [hw2]; exact heap_new_at _ _ _ rfl)
    have HO2 := Lib.hid (own_below HOWN.out hb2)
    have HB2 := Lib.hid hb2
    have hgw2 : g < w2.heap.size := Nat.lt_of_lt_of_le hgw hb2.size
    have HW2 := Lib.hid hw2
    clear hb2 hw2
    go_enter Try.func16, Try.ntmps16
    go_upto_region 1 with fail
    rw [← HW2.out]
    go_wp2_with fail
    go_loopw [9, 10] (fun c9 c10 wr => ∃ i j : Nat, c9 = .int .i64 i ∧ c10 = .int .i64 j ∧ i ≤ ps ∧ ps ≤ j ∧ j ≤ l.length ∧ Below w2.heap.size w2 wr) (fun c9 c10 _ => (intOf c10).toNat - (intOf c9).toNat)
    case atStart => exact ⟨0, l.length, rfl, rfl, by omega, hple, by omega, Below.refl _ _⟩
    case round =>
      obtain ⟨i, j, rfl, rfl, hi, hj, hjl, hb⟩ := hrel
      by_cases hij : i < j
      · go_upto_region 5 with fail
        obtain ⟨m, hm⟩ : ∃ m, m = (i + j) / 2 := ⟨_, rfl⟩
        have hmi : ((i : Int) + (j : Int)) / 2 = (m : Int) := by omega
        rw [hmi]
        have hml : m < l.length := by omega
        obtain ⟨y, hy⟩ : ∃ y, l[m]? = some y := ⟨_, List.getElem?_eq_getElem hml⟩
        have hyv : l[m] = y := (List.getElem?_eq_some_iff.1 hy).2
        have HYD := Lib.hid (own_holds (own_below HO2.out hb) hy hml)
        have HXD := Lib.hid (Holds.of_block ((hb.block _ (blk_lt HX2.out)).trans HX2.out))
        have hgr : g < wr.heap.size := Nat.lt_of_lt_of_le hgw2 hb.size
        have hxr : w.heap.size < wr.heap.size := Nat.lt_of_lt_of_le (blk_lt HX2.out) hb.size
        have hlt : decide (aheadC y x < 0) = aheadB y x := aheadC_lt y x
        have HB := Lib.hid hb
        have h1 := HSP.out.1 m hml
        have h2 := HSP.out.2 m hml
        rw [hyv] at h1 h2
        have hmj : i ≤ m ∧ m < j := by omega
        clear hmi hyv hy hb hm
        cases hab : aheadB y x with
        | true =>
          rw [hab] at hlt
          have hmp : m < ps := by
            rcases Nat.lt_or_ge m ps with h | h
            · exact h
            · rw [h2 h] at hab; cases hab
          clear h1 h2 hab
          refine wt_start (S := fun W => Below wr.heap.size wr W) 7 (by kernel_rfl) ⟨by kernel_rfl, by kernel_rfl, by kernel_rfl, by decide⟩ ?_
          intro HTK
          have S0 := Lib.hid (show Below wr.heap.size wr wr.drew from (Below.refl _ _).drew)
          refine wt_take (i := 0) (v := ?_) HTK.out rfl (by decide) (by kernel_rfl) (by kernel_rfl) (fun _ _ _ h => h) (by exact S0.out) (Or.inl ⟨by rfl, ?_⟩) ?_
          rotate_left
          · intro W hSw
            try dsimp only at hSw
            go_simp
            try (with_reducible rfl)
          try simp only [List.getElem_toArray, List.getElem_cons_zero, List.getElem_cons_succ, Act.put, List.setIfInBounds_toArray, List.set_cons_zero, List.set_cons_succ]
          refine wt_take (i := 1) (v := ?_) HTK.out rfl (by decide) (by kernel_rfl) (by kernel_rfl) (fun _ _ _ h => h) (by exact S0.out) (Or.inl ⟨by rfl, ?_⟩) ?_
          rotate_left
          · intro W hSw
            try dsimp only at hSw
            go_simp
            try (with_reducible rfl)
          try simp only [List.getElem_toArray, List.getElem_cons_zero, List.getElem_cons_succ, Act.put, List.setIfInBounds_toArray, List.set_cons_zero, List.set_cons_succ]
          refine wt_take (i := 2) (v := ?_) HTK.out rfl (by decide) (by kernel_rfl) (by kernel_rfl) (fun _ _ _ h => h) (by exact S0.out) (Or.inl ⟨by rfl, ?_⟩) ?_
          rotate_left
          · intro W hSw
            try dsimp only at hSw
            go_simp
            try (with_reducible rfl)
          try simp only [List.getElem_toArray, List.getElem_cons_zero, List.getElem_cons_succ, Act.put, List.setIfInBounds_toArray, List.set_cons_zero, List.set_cons_succ]
          refine wt_take (i := 3) (v := ?_) HTK.out rfl (by decide) (by kernel_rfl) (by kernel_rfl) (fun _ _ _ h => h) (by exact S0.out) (Or.inl ⟨by rfl, ?_⟩) ?_
          rotate_left
          · intro W hSw
            try dsimp only at hSw
            go_simp
            try (with_reducible rfl)
          try simp only [List.getElem_toArray, List.getElem_cons_zero, List.getElem_cons_succ, Act.put, List.setIfInBounds_toArray, List.set_cons_zero, List.set_cons_succ]
          refine wt_take (i := 4) (v := .agg y.cells) HTK.out rfl (by decide) (by kernel_rfl) (by kernel_rfl) (fun _ _ _ h => h) (by exact S0.out) (yieldsIf_load_at (by rfl) _ _ (by rfl) _ (by rfl) y.cells _ (fun W hSw => (HYD.out).below hSw (by exact hgr)) Try.underlying35 (by rfl) (sizeSm _)) ?_
          try simp only [List.getElem_toArray, List.getElem_cons_zero, List.getElem_cons_succ, Act.put, List.setIfInBounds_toArray, List.set_cons_zero, List.set_cons_succ]
          refine wt_take (i := 5) (v := .agg x.cells) HTK.out rfl (by decide) (by kernel_rfl) (by kernel_rfl) (fun _ _ _ h => h) (by exact S0.out) (yieldsIf_load_at (by rfl) _ _ (by rfl) _ (by rfl) x.cells _ (fun W hSw => (HXD.out).below hSw (by exact hxr)) Try.underlying35 (by rfl) (sizeSm _)) ?_
          try simp only [List.getElem_toArray, List.getElem_cons_zero, List.getElem_cons_succ, Act.put, List.setIfInBounds_toArray, List.set_cons_zero, List.set_cons_succ]
          refine wt_ready (rs := [6]) (by kernel_rfl) (by simp) ?_
          refine AllT.cons rfl (by decide) (fun K hK => ?_) ?_
          · go_simp
            go_at_call 17
            refine (ahead_calls _ _ _).mono ?_
            rintro e wk ⟨rfl, hbz⟩
            have S1 := Lib.hid (S0.out.trans (hbz.mono S0.out.size))
            clear hbz
            refine hK.out _ _ (by exact S1.out) ?_
            clear hK K
            try simp only [List.getElem_toArray, List.getElem_cons_zero, List.getElem_cons_succ, Act.put, List.setIfInBounds_toArray, List.set_cons_zero, List.set_cons_succ]
            refine wt_last (k := 7) (by kernel_rfl) (by kernel_rfl) (by decide) rfl (fun K hK => ?_)
            go_simp
            refine hK.out _ _ ?_
            clear hK K
            try simp only [List.getElem_toArray, List.getElem_cons_zero, List.getElem_cons_succ, Act.put, List.setIfInBounds_toArray, List.set_cons_zero, List.set_cons_succ]
            go_wp2_with fail
            exact ⟨⟨m + 1, j, by go_num, rfl, by omega, hj, hjl, HB.out.trans (S1.out.mono HB.out.size)⟩, by simp [intOf]; omega⟩
          exact AllT.nil
        | false =>
          rw [hab] at hlt
          have hmp : ps ≤ m := by
            rcases Nat.lt_or_ge m ps with h | h
            · rw [h1 h] at hab; cases hab
            · exact h
          clear h1 h2 hab
          refine wt_start (S := fun W => Below wr.heap.size wr W) 7 (by kernel_rfl) ⟨by kernel_rfl, by kernel_rfl, by kernel_rfl, by decide⟩ ?_
          intro HTK
          have S0 := Lib.hid (show Below wr.heap.size wr wr.drew from (Below.refl _ _).drew)
          refine wt_take (i := 0) (v := ?_) HTK.out rfl (by decide) (by kernel_rfl) (by kernel_rfl) (fun _ _ _ h => h) (by exact S0.out) (Or.inl ⟨by rfl, ?_⟩) ?_
          rotate_left
          · intro W hSw
            try dsimp only at hSw
            go_simp
            try (with_reducible rfl)
          try simp only [List.getElem_toArray, List.getElem_cons_zero, List.getElem_cons_succ, Act.put, List.setIfInBounds_toArray, List.set_cons_zero, List.set_cons_succ]
          refine wt_take (i := 1) (v := ?_) HTK.out rfl (by decide) (by kernel_rfl) (by kernel_rfl) (fun _ _ _ h => h) (by exact S0.out) (Or.inl ⟨by rfl, ?_⟩) ?_
          rotate_left
          · intro W hSw
            try dsimp only at hSw
            go_simp
            try (with_reducible rfl)
          try simp only [List.getElem_toArray, List.getElem_cons_zero, List.getElem_cons_succ, Act.put, List.setIfInBounds_toArray, List.set_cons_zero, List.set_cons_succ]
          refine wt_take (i := 2) (v := ?_) HTK.out rfl (by decide) (by kernel_rfl) (by kernel_rfl) (fun _ _ _ h => h) (by exact S0.out) (Or.inl ⟨by rfl, ?_⟩) ?_
          rotate_left
          · intro W hSw
            try dsimp only at hSw
            go_simp
            try (with_reducible rfl)
          try simp only [List.getElem_toArray, List.getElem_cons_zero, List.getElem_cons_succ, Act.put, List.setIfInBounds_toArray, List.set_cons_zero, List.set_cons_succ]
          refine wt_take (i := 3) (v := ?_) HTK.out rfl (by decide) (by kernel_rfl) (by kernel_rfl) (fun _ _ _ h => h) (by exact S0.out) (Or.inl ⟨by rfl, ?_⟩) ?_
          rotate_left
          · intro W hSw
            try dsimp only at hSw
            go_simp
            try (with_reducible rfl)
          try simp only [List.getElem_toArray, List.getElem_cons_zero, List.getElem_cons_succ, Act.put, List.setIfInBounds_toArray, List.set_cons_zero, List.set_cons_succ]
          refine wt_take (i := 4) (v := .agg y.cells) HTK.out rfl (by decide) (by kernel_rfl) (by kernel_rfl) (fun _ _ _ h => h) (by exact S0.out) (yieldsIf_load_at (by rfl) _ _ (by rfl) _ (by rfl) y.cells _ (fun W hSw => (HYD.out).below hSw (by exact hgr)) Try.underlying35 (by rfl) (sizeSm _)) ?_
          try simp only [List.getElem_toArray, List.getElem_cons_zero, List.getElem_cons_succ, Act.put, List.setIfInBounds_toArray, List.set_cons_zero, List.set_cons_succ]
          refine wt_take (i := 5) (v := .agg x.cells) HTK.out rfl (by decide) (by kernel_rfl) (by kernel_rfl) (fun _ _ _ h => h) (by exact S0.out) (yieldsIf_load_at (by rfl) _ _ (by rfl) _ (by rfl) x.cells _ (fun W hSw => (HXD.out).below hSw (by exact hxr)) Try.underlying35 (by rfl) (sizeSm _)) ?_
          try simp only [List.getElem_toArray, List.getElem_cons_zero, List.getElem_cons_succ, Act.put, List.setIfInBounds_toArray, List.set_cons_zero, List.set_cons_succ]
          refine wt_ready (rs := [6]) (by kernel_rfl) (by simp) ?_
          refine AllT.cons rfl (by decide) (fun K hK => ?_) ?_
          · go_simp
            go_at_call 17
            refine (ahead_calls _ _ _).mono ?_
            rintro e wk ⟨rfl, hbz⟩
            have S1 := Lib.hid (S0.out.trans (hbz.mono S0.out.size))
            clear hbz
            refine hK.out _ _ (by exact S1.out) ?_
            clear hK K
            try simp only [List.getElem_toArray, List.getElem_cons_zero, List.getElem_cons_succ, Act.put, List.setIfInBounds_toArray, List.set_cons_zero, List.set_cons_succ]
            refine wt_last (k := 7) (by kernel_rfl) (by kernel_rfl) (by decide) rfl (fun K hK => ?_)
            go_simp
            refine hK.out _ _ ?_
            clear hK K
            try simp only [List.getElem_toArray, List.getElem_cons_zero, List.getElem_cons_succ, Act.put, List.setIfInBounds_toArray, List.set_cons_zero, List.set_cons_succ]
            go_wp2_with fail
            exact ⟨⟨i, m, rfl, rfl, hi, hmp, by omega, HB.out.trans (S1.out.mono HB.out.size)⟩, by simp [intOf]; omega⟩
          exact AllT.nil
      · obtain rfl : i = j := by omega
        obtain rfl : i = ps := by omega
        clear hi hj hij
        go_upto_region 8 with fail
        cases hpl : l[i]? with
        | none =>
          have hf : fo = false := by rw [HFO.out, hpl]
          subst hf
          have hge : l.length ≤ i := List.getElem?_eq_none_iff.1 hpl
          have hil : i = l.length := by omega
          subst hil
          clear hpl hge
          have hdl : decide ((l.length : Int) < (l.length : Int)) = false := by simp
          go_quiet (fail)
          go_wp2_with fail
          go_ret2
          exact ⟨rfl, HB2.out.trans ((below_drewN' hb _).mono HB2.out.size)⟩
        | some y =>
          have hil : i < l.length := (List.getElem?_eq_some_iff.1 hpl).1
          have hfo : (aheadC y x == 0) = fo := by rw [HFO.out, hpl]
          have hdl : decide ((i : Int) < (l.length : Int)) = true := by simp; omega
          have HYD := Lib.hid (own_holds (own_below HO2.out hb) hpl hil)
          have HXD := Lib.hid (Holds.of_block ((hb.block _ (blk_lt HX2.out)).trans HX2.out))
          have hgr : g < wr.heap.size := Nat.lt_of_lt_of_le hgw2 hb.size
          have hxr : w.heap.size < wr.heap.size := Nat.lt_of_lt_of_le (blk_lt HX2.out) hb.size
          have HB := Lib.hid hb
          clear hpl hb
          refine wt_start (S := fun W => Below wr.heap.size wr W) 15 (by kernel_rfl) ⟨by kernel_rfl, by kernel_rfl, by kernel_rfl, by decide⟩ ?_
          intro HTK
          have S0 := Lib.hid (show Below wr.heap.size wr wr.drew from (Below.refl _ _).drew)
          refine wt_take (i := 0) (v := ?_) HTK.out rfl (by decide) (by kernel_rfl) (by kernel_rfl) (fun _ _ _ h => h) (by exact S0.out) (Or.inl ⟨by rfl, ?_⟩) ?_
          rotate_left
          · intro W hSw
            try dsimp only at hSw
            go_simp
            try (with_reducible rfl)
          try simp only [List.getElem_toArray, List.getElem_cons_zero, List.getElem_cons_succ, Act.put, List.setIfInBounds_toArray, List.set_cons_zero, List.set_cons_succ]
          refine wt_take (i := 1) (v := ?_) HTK.out rfl (by decide) (by kernel_rfl) (by kernel_rfl) (fun _ _ _ h => h) (by exact S0.out) (Or.inl ⟨by rfl, ?_⟩) ?_
          rotate_left
          · intro W hSw
            try dsimp only at hSw
            go_simp
            try (with_reducible rfl)
          try simp only [List.getElem_toArray, List.getElem_cons_zero, List.getElem_cons_succ, Act.put, List.setIfInBounds_toArray, List.set_cons_zero, List.set_cons_succ]
          refine wt_take (i := 2) (v := ?_) HTK.out rfl (by decide) (by kernel_rfl) (by kernel_rfl) (fun _ _ _ h => h) (by exact S0.out) (Or.inl ⟨by rfl, ?_⟩) ?_
          rotate_left
          · intro W hSw
            try dsimp only at hSw
            go_simp
            try (with_reducible rfl)
          try simp only [List.getElem_toArray, List.getElem_cons_zero, List.getElem_cons_succ, Act.put, List.setIfInBounds_toArray, List.set_cons_zero, List.set_cons_succ]
          refine wt_take (i := 3) (v := ?_) HTK.out rfl (by decide) (by kernel_rfl) (by kernel_rfl) (fun _ _ _ h => h) (by exact S0.out) (Or.inl ⟨by rfl, ?_⟩) ?_
          rotate_left
          · intro W hSw
            try dsimp only at hSw
            go_simp
            try (with_reducible rfl)
          try simp only [List.getElem_toArray, List.getElem_cons_zero, List.getElem_cons_succ, Act.put, List.setIfInBounds_toArray, List.set_cons_zero, List.set_cons_succ]
          refine wt_take (i := 4) (v := ?_) HTK.out rfl (by decide) (by kernel_rfl) (by kernel_rfl) (fun _ _ _ h => h) (by exact S0.out) (Or.inl ⟨by rfl, ?_⟩) ?_
          rotate_left
          · intro W hSw
            try dsimp only at hSw
            go_simp
            try (with_reducible rfl)
          try simp only [List.getElem_toArray, List.getElem_cons_zero, List.getElem_cons_succ, Act.put, List.setIfInBounds_toArray, List.set_cons_zero, List.set_cons_succ]
          refine wt_take (i := 5) (v := ?_) HTK.out rfl (by decide) (by kernel_rfl) (by kernel_rfl) (fun _ _ _ h => h) (by exact S0.out) (Or.inl ⟨by rfl, ?_⟩) ?_
          rotate_left
          · intro W hSw
            try dsimp only at hSw
            go_simp
            try (with_reducible rfl)
          try simp only [List.getElem_toArray, List.getElem_cons_zero, List.getElem_cons_succ, Act.put, List.setIfInBounds_toArray, List.set_cons_zero, List.set_cons_succ]
          refine wt_take (i := 6) (v := ?_) HTK.out rfl (by decide) (by kernel_rfl) (by kernel_rfl) (fun _ _ _ h => h) (by exact S0.out) (Or.inl ⟨by rfl, ?_⟩) ?_
          rotate_left
          · intro W hSw
            try dsimp only at hSw
            go_simp
            try (with_reducible rfl)
          try simp only [List.getElem_toArray, List.getElem_cons_zero, List.getElem_cons_succ, Act.put, List.setIfInBounds_toArray, List.set_cons_zero, List.set_cons_succ]
          refine wt_take (i := 7) (v := ?_) HTK.out rfl (by decide) (by kernel_rfl) (by kernel_rfl) (fun _ _ _ h => h) (by exact S0.out) (Or.inl ⟨by rfl, ?_⟩) ?_
          rotate_left
          · intro W hSw
            try dsimp only at hSw
            go_simp
            try (with_reducible rfl)
          try simp only [List.getElem_toArray, List.getElem_cons_zero, List.getElem_cons_succ, Act.put, List.setIfInBounds_toArray, List.set_cons_zero, List.set_cons_succ]
          refine wt_take (i := 8) (v := ?_) HTK.out rfl (by decide) (by kernel_rfl) (by kernel_rfl) (fun _ _ _ h => h) (by exact S0.out) (Or.inl ⟨by rfl, ?_⟩) ?_
          rotate_left
          · intro W hSw
            try dsimp only at hSw
            go_simp
            try (with_reducible rfl)
          try simp only [List.getElem_toArray, List.getElem_cons_zero, List.getElem_cons_succ, Act.put, List.setIfInBounds_toArray, List.set_cons_zero, List.set_cons_succ]
          refine wt_take (i := 9) (v := .agg y.cells) HTK.out rfl (by decide) (by kernel_rfl) (by kernel_rfl) (fun _ _ _ h => h) (by exact S0.out) (yieldsIf_load_at (by rfl) _ _ (by rfl) _ (by rfl) y.cells _ (fun W hSw => (HYD.out).below hSw (by exact hgr)) Try.underlying35 (by rfl) (sizeSm _)) ?_
          try simp only [List.getElem_toArray, List.getElem_cons_zero, List.getElem_cons_succ, Act.put, List.setIfInBounds_toArray, List.set_cons_zero, List.set_cons_succ]
          refine wt_take (i := 10) (v := .agg x.cells) HTK.out rfl (by decide) (by kernel_rfl) (by kernel_rfl) (fun _ _ _ h => h) (by exact S0.out) (yieldsIf_load_at (by rfl) _ _ (by rfl) _ (by rfl) x.cells _ (fun W hSw => (HXD.out).below hSw (by exact hxr)) Try.underlying35 (by rfl) (sizeSm _)) ?_
          try simp only [List.getElem_toArray, List.getElem_cons_zero, List.getElem_cons_succ, Act.put, List.setIfInBounds_toArray, List.set_cons_zero, List.set_cons_succ]
          refine wt_ready (rs := [11]) (by kernel_rfl) (by simp) ?_
          refine AllT.cons rfl (by decide) (fun K hK => ?_) ?_
          · go_simp
            go_at_call 17
            refine (ahead_calls _ _ _).mono ?_
            rintro e wk ⟨rfl, hbz⟩
            have S1 := Lib.hid (S0.out.trans (hbz.mono S0.out.size))
            clear hbz
            refine hK.out _ _ (by exact S1.out) ?_
            clear hK K
            try simp only [List.getElem_toArray, List.getElem_cons_zero, List.getElem_cons_succ, Act.put, List.setIfInBounds_toArray, List.set_cons_zero, List.set_cons_succ]
            refine wt_take (i := 12) (v := ?_) HTK.out rfl (by decide) (by kernel_rfl) (by kernel_rfl) (fun _ _ _ h => h) (by exact S1.out) (Or.inl ⟨by rfl, ?_⟩) ?_
            rotate_left
            · intro W hSw
              try dsimp only at hSw
              go_simp
              try (with_reducible rfl)
            try simp only [List.getElem_toArray, List.getElem_cons_zero, List.getElem_cons_succ, Act.put, List.setIfInBounds_toArray, List.set_cons_zero, List.set_cons_succ]
            refine wt_take (i := 13) (v := ?_) HTK.out rfl (by decide) (by kernel_rfl) (by kernel_rfl) (fun _ _ _ h => h) (by exact S1.out) (Or.inl ⟨by rfl, ?_⟩) ?_
            rotate_left
            · intro W hSw
              try dsimp only at hSw
              go_simp
              try (with_reducible rfl)
            try simp only [List.getElem_toArray, List.getElem_cons_zero, List.getElem_cons_succ, Act.put, List.setIfInBounds_toArray, List.set_cons_zero, List.set_cons_succ]
            refine wt_take (i := 14) (v := ?_) HTK.out rfl (by decide) (by kernel_rfl) (by kernel_rfl) (fun _ _ _ h => h) (by exact S1.out) (Or.inl ⟨by rfl, ?_⟩) ?_
            rotate_left
            · intro W hSw
              try dsimp only at hSw
              go_simp
              try (with_reducible rfl)
            try simp only [List.getElem_toArray, List.getElem_cons_zero, List.getElem_cons_succ, Act.put, List.setIfInBounds_toArray, List.set_cons_zero, List.set_cons_succ]
            refine wt_last (k := 15) (by kernel_rfl) (by kernel_rfl) (by decide) rfl (fun K hK => ?_)
            go_simp
            refine hK.out _ _ ?_
            clear hK K
            try simp only [List.getElem_toArray, List.getElem_cons_zero, List.getElem_cons_succ, Act.put, List.setIfInBounds_toArray, List.set_cons_zero, List.set_cons_succ]
            go_wp2_with fail
            go_ret2
            exact ⟨rfl, HB2.out.trans ((HB.out.trans (S1.out.mono HB.out.size)).mono HB2.out.size)⟩
          exact AllT.nil
end Go.Proofs.Ytmhhoaaoofopfaa
