/- slices.Concat, SortedFunc at names' numbers. -/
import Derived.Test.YtiehdfokcnphdaaGreatDoorSq
import Derived.Test.YtiehdfokcnphdaaGreatDoorSn2
import Derived.Test.YtiehdfokcnphdaaGreatDoorAp
import Derived.Shelf.Spec.SlicesGrow
set_option linter.unusedVariables false
set_option linter.unusedSimpArgs false
namespace Go.Proofs.YtiehdfokcnphdaaGreatDoor
open Go.RowKit Go.Shelf Go.Sort

def renGr : Go.Shelf.Ren := ⟨fun | 4 => 58 | n => n, fun | 0 => 0 | 3 => 3 | 4 => 4 | 9 => 9 | 20 => 20 | 22 => 31 | 25 => 91 | n => n, fun | n => n⟩
theorem laysGr : Go.Proofs.Lays8.n4 Tryz.prog renGr := {
  mixed := by kernel_rfl
  f4 := ⟨"slices.Grow[[]enfilade/power.Named,enfilade/power.Named]", by decide, Tryz.func58.trans (congrArg some (by kernel_rfl))⟩
  t0 := Tryz.underlying0
  a0 := Tryz.isAgg0
  z0 := Tryz.sizeOf0
  v0 := Tryz.zeroValue0
  t3 := Tryz.underlying3
  a3 := Tryz.isAgg3
  z3 := Tryz.sizeOf3
  v3 := Tryz.zeroValue3
  t4 := Tryz.underlying4
  a4 := Tryz.isAgg4
  z4 := Tryz.sizeOf4
  v4 := Tryz.zeroValue4
  t9 := Tryz.underlying9
  a9 := Tryz.isAgg9
  z9 := Tryz.sizeOf9
  v9 := Tryz.zeroValue9
  t20 := Tryz.underlying20
  a20 := Tryz.isAgg20
  z20 := Tryz.sizeOf20
  v20 := Tryz.zeroValue20
  t22 := Tryz.underlying31
  a22 := Tryz.isAgg31
  z22 := Tryz.sizeOf31
  v22 := Tryz.zeroValue31 }
/-- slices.Grow of nothing: nothing, or an empty row with room. -/
theorem ngrow_calls (w : World) (n : Nat) (hn : n ≤ 2000000) : Calls Tryz.prog 58 #[.slice none 0 0, .int .i64 n] w fun e w' => ∃ v, e = .returned v ∧ w'.ownsRow w.heap.size 91 2 v 0 [] ∧ Below w.heap.size w w' := by
  rcases Nat.eq_zero_or_pos n with rfl | hp
  · exact (Any8.slices_Grow_room laysGr none 0 0 0 w (by omega) (by omega) (by omega) (by omega)).mono fun e w' ⟨h1, h2⟩ => ⟨_, h1, by rw [h2]; exact ⟨rfl, .inl ⟨rfl, rfl⟩⟩, by rw [h2]; exact Below.refl _ _⟩
  · obtain ⟨i0, hi, hz0, hz1, hz2⟩ := info_parts infoN
    refine (Any8.slices_Grow_grow laysGr i0 _ hi hz0 (by rw [hz1]; omega) none 0 0 n [] w (by omega) (by omega) (by rw [hz2]; omega) (by omega) (by simp) (fun _ => rfl) (fun a h => by cases h)).mono ?_
    have hge : n ≤ grownCap w (0 + n) 0 (renGr.t 25) := by have := grownCap_ge w (0 + n) 0 (renGr.t 25); omega
    have hle : grownCap w (0 + n) 0 (renGr.t 25) ≤ maxLen := grownCap_le_maxLen w (0 + n) 0 (renGr.t 25) (by unfold maxLen; omega)
    generalize grownCap w (0 + n) 0 (renGr.t 25) = G at hge hle ⊢
    rintro e w' ⟨rfl, rfl⟩
    refine ⟨_, rfl, ⟨rfl, .inr ⟨w.heap.size, _, _, rfl, Nat.le_refl _, heap_new_at _ _ _ rfl, by omega, hle, ?_, rfl⟩⟩, ?_⟩
    · rw [Array.size_append, Array.size_append, size_zeroCells, size_zeroCells]
      have hz : (Value.agg #[.string ⟨#[]⟩, .int .i64 0]).cells.size = 2 := rfl
      rw [hz]
      simp
      omega
    · exact ((Below.refl _ _).drew).alloc (Nat.le_refl _) _
theorem RowOf.srcN {w : World} {P : Nat → Prop} {s : Sl} {l : List Nm} (h : RowOf w P 91 2 s (ncells l)) : Src w 2 s.a s.n s.c (ncells l) := by
  have hn : s.n = l.length := by have := h.1; simpa using this
  rcases h.2.2 with ⟨rfl, hnil⟩ | ⟨r, ha, hc, hP, hr, hrw⟩
  · have : l = [] := by simpa using hnil
    subst this
    exact ⟨rfl, by simp, by simp, .inl ⟨rfl, rfl, rfl⟩⟩
  · have := hrw.src (fun x hx u hu => ncells_one l u (List.mem_flatten.2 ⟨x, hx, hu⟩)) (by omega) 0 s.n s.c (by simp; omega)
    rw [ha]
    have ht : (List.drop 0 (ncells l)).take s.n = ncells l := by rw [List.drop_zero, List.take_of_length_le (by simp; omega)]
    rw [ht, Nat.zero_mul] at this
    exact this
set_option maxRecDepth 100000 in
set_option maxHeartbeats 2000000 in
/-- slices.Concat of two lists. -/
theorem nconcat_calls (w : World) (gs : Nat) (s1 s2 : Sl) (l1 l2 : List Nm) (P : Nat → Prop) (hg : w.heap[gs]? = some (.cells #[.slice s1.a s1.n s1.c, .slice s2.a s2.n s2.c] 31 (0, 0))) (h1 : RowOf w P 91 2 s1 (ncells l1)) (h2 : RowOf w P 91 2 s2 (ncells l2)) (hk : l1.length + l2.length ≤ 1000000) :
    Calls Tryz.prog 36 #[.slice (some ⟨gs, 0, none⟩) 2 2] w fun e w' => ∃ s : Sl, e = .returned s.val ∧ RowOf w' (fun g => w.heap.size ≤ g) 91 2 s (ncells (l1 ++ l2)) ∧ Below w.heap.size w w' := by
  have hn1 : s1.n = l1.length := by have := h1.1; simpa using this
  have hn2 : s2.n = l2.length := by have := h2.1; simpa using this
  have HG := Lib.hid hg
  have H1 := Lib.hid h1
  have H2 := Lib.hid h2
  have HGR := Lib.hid (fun (n : Nat) (hn : n ≤ 2000000) => ngrow_calls w n hn)
  obtain ⟨i0, hi, hz0, hz1, hz2⟩ := info_parts infoN
  have HI := Lib.hid hi
  have HZ0 := Lib.hid hz0
  have HZ1 := Lib.hid hz1
  have HZ2 := Lib.hid hz2
  have q0 : w.cell? ⟨gs, 0, none⟩ = some (.slice s1.a s1.n s1.c) := cell_at (j := 0) hg rfl
  have q1 : w.cell? ⟨gs, 1, none⟩ = some (.slice s2.a s2.n s2.c) := cell_at (j := 1) hg rfl
  have hgl := blk_lt hg
  clear hg h1 h2 hi hz0 hz1 hz2
  go_enter Tryz.func36, Tryz.ntmps36
  go_wp2_with fail
  go_loopw [3, 11] (fun v i wr => ∃ k n : Nat, k ≤ 2 ∧ i = .int .i64 k ∧ v = .int .i64 n ∧ wr = w ∧ ((k = 0 ∧ n = 0) ∨ (k = 1 ∧ n = l1.length) ∨ (k = 2 ∧ n = l1.length + l2.length))) (fun _ i _ => 2 - (intOf i).toNat)
  case atStart => exact ⟨0, 0, by omega, rfl, rfl, rfl, .inl ⟨rfl, rfl⟩⟩
  case round =>
    obtain ⟨k, n, hk', rfl, rfl, rfl, ⟨rfl, rfl⟩ | ⟨rfl, rfl⟩ | ⟨rfl, rfl⟩⟩ := hrel
    · go_wp2_with fail
      exact ⟨⟨1, l1.length, by omega, by first | rfl | go_num, by first | rfl | go_num | simp, (by first | rfl | trivial), .inr (.inl ⟨rfl, rfl⟩)⟩, by simp [intOf]⟩
    · go_wp2_with fail
      exact ⟨⟨2, l1.length + l2.length, by omega, by first | rfl | go_num, by first | rfl | go_num | simp, (by first | rfl | trivial), .inr (.inr ⟨rfl, rfl⟩)⟩, by simp [intOf]⟩
    · have HGN := Lib.hid (HGR.out (l1.length + l2.length) (by omega))
      clear HGR
      go_wp2_with fail
      have HGM := HGN.out
      refine (show Calls _ _ _ _ _ from HGM).mono ?_
      rintro e w1 ⟨v, rfl, hown, hb⟩
      have HO := Lib.hid hown
      have HB := Lib.hid hb
      have q00 := q0
      have q11 := q1
      have HQ := Lib.hid (And.intro q00 q11)
      clear hown hb q0 q1 q00 q11 HGN HGM
      obtain ⟨w, hren⟩ : ∃ wn : World, wn = wr := ⟨_, rfl⟩
      subst hren
      go_wp2_with fail
      go_loopw [6, 27] (fun v i wr => ∃ (k : Nat) (li : List Nm), k ≤ 2 ∧ i = .int .i64 k ∧ wr.ownsRow w.heap.size 91 2 v li.length (ncells li).flatten ∧ Below w.heap.size w wr ∧ ((k = 0 ∧ li = []) ∨ (k = 1 ∧ li = l1) ∨ (k = 2 ∧ li = l1 ++ l2))) (fun _ i _ => 2 - (intOf i).toNat)
      case atStart => exact ⟨0, [], by omega, rfl, HO.out, HB.out, .inl ⟨rfl, rfl⟩⟩
      case round =>
        obtain ⟨k, li, hk', rfl, hown, hb, hcase⟩ := hrel
        have HBI := Lib.hid hb
        have hbs := hb.size
        have q0'' := (hb.cell (p := ⟨gs, 0, none⟩) (by exact hgl)).trans HQ.out.1
        have q1'' := (hb.cell (p := ⟨gs, 1, none⟩) (by exact hgl)).trans HQ.out.2
        have hglr : gs < wr.heap.size := Nat.lt_of_lt_of_le hgl hbs
        rcases hcase with ⟨rfl, hli⟩ | ⟨rfl, hli⟩ | ⟨rfl, hli⟩
        all_goals
          rw [hli] at hown
          have HOW := Lib.hid hown
          clear hli
        · have HS := Lib.hid (show Src wr 2 s1.a l1.length s1.c (ncells l1) by rw [← hn1]; exact (H1.out.same hbs (fun g hg _ => HBI.out.block g hg)).srcN)
          clear hown hb
          go_wp2_with (at_builtin; refine wpList_append_src _ rfl _ _ 31 rfl w.heap.size 91 i0 _ 2 24 Tryz.underlying31 HI.out HZ0.out HZ1.out HZ2.out rfl (by decide) _ _ _ rfl HOW.out _ _ _ (ncells l1) rfl HS.out (by unfold maxLen; first | omega | (simp; omega)) (by first | omega | (simp; omega)) hbs ?_)
          intro a' cap' w4 hown4 hg4 hat4
          have HO4 := Lib.hid hown4
          have HB4 := Lib.hid (HBI.out.grown hg4 hbs (fun j hj => (HOW.out.lt j hj).1))
          clear hown4 hg4 hat4
          go_wp2_with fail
          exact ⟨⟨1, l1, by omega, by first | rfl | go_num, by simpa using HO4.out, HB4.out, .inr (.inl ⟨rfl, rfl⟩)⟩, by simp [intOf]⟩
        · have HS := Lib.hid (show Src wr 2 s2.a l2.length s2.c (ncells l2) by rw [← hn2]; exact (H2.out.same hbs (fun g hg _ => HBI.out.block g hg)).srcN)
          clear hown hb
          go_wp2_with (at_builtin; refine wpList_append_src _ rfl _ _ 31 rfl w.heap.size 91 i0 _ 2 24 Tryz.underlying31 HI.out HZ0.out HZ1.out HZ2.out rfl (by decide) _ _ _ rfl HOW.out _ _ _ (ncells l2) rfl HS.out (by unfold maxLen; first | omega | (simp; omega)) (by first | omega | (simp; omega)) hbs ?_)
          intro a' cap' w4 hown4 hg4 hat4
          have HO4 := Lib.hid hown4
          have HB4 := Lib.hid (HBI.out.grown hg4 hbs (fun j hj => (HOW.out.lt j hj).1))
          clear hown4 hg4 hat4
          go_wp2_with fail
          exact ⟨⟨2, l1 ++ l2, by omega, by first | rfl | go_num, by simpa using HO4.out, HB4.out, .inr (.inr ⟨rfl, rfl⟩)⟩, by simp [intOf]⟩
        · obtain ⟨s', rfl, hr'⟩ := RowOf.of_own (l := ncells (l1 ++ l2)) hown (ncells_len _) (by decide) (by simp; omega)
          have HR := Lib.hid hr'
          clear hown hb hr' HOW
          go_wp2_with fail
          go_ret
          exact ⟨s', rfl, HR.out, HBI.out⟩
set_option maxRecDepth 100000 in
/-- slices.SortedFunc. -/
theorem nsorted_calls (w : World) (Bm cap : Nat) (A : Option Addr) (xs : List Nm) (hBm : Bm < w.heap.size) (hm : w.cell? ⟨Bm, 0, none⟩ = some (.slice A xs.length cap)) (hrw : RowOf w (fun g => g < w.heap.size) 91 2 ⟨A, xs.length, cap⟩ (ncells xs)) (hN : xs.length ≤ 1000000) :
    Calls Tryz.prog 34 #[seqN Bm, .func (.func 37) #[] #[]] w fun e w' => ∃ (s : Sl) (ys : List Nm), e = .returned s.val ∧ ys.Perm xs ∧ ys.Pairwise (fun a b => ltOf cmpN b a = false) ∧ RowOf w' (fun g => w.heap.size ≤ g) 91 2 s (ncells ys) ∧ Below w.heap.size w w' := by
  have HA := Lib.hid (ncollect_calls w Bm cap A xs hBm hm hrw hN)
  have HN := Lib.hid hN
  clear hN hm hrw
  go_enter Tryz.func34, Tryz.ntmps34
  go_wp2_with fail
  refine HA.out.mono ?_
  rintro e w1 ⟨s, rfl, hr, hb⟩
  have HR := Lib.hid hr
  have HB := Lib.hid hb
  clear hr hb HA
  obtain ⟨A', n, c⟩ := s
  simp only [Sl.val]
  rcases HR.out.2.2 with ⟨hs, hnil⟩ | ⟨r, ha, hcap, hP, hlt, hrw⟩
  · injection hs with hs1 hs2 hs3
    subst hs1 hs2 hs3
    have hx0 : xs = [] := by simpa using hnil
    subst hx0
    clear hnil
    go_wp2_with fail
    refine (sortN_none w1 none 0 _).mono ?_
    rintro e w2 ⟨rfl, rfl⟩
    go_wp2_with fail
    go_ret
    exact ⟨⟨none, 0, 0⟩, [], rfl, .refl _, .nil, HR.out, HB.out⟩
  · have hn' : n = xs.length := by have := HR.out.1; simpa using this
    dsimp only at ha
    subst ha hn'
    have HS := Lib.hid (sortN_calls w1 r c xs HN.out hrw)
    have HPr := Lib.hid hP
    have HCAP := Lib.hid hcap
    clear hrw hP hcap
    go_wp2_with fail
    refine HS.out.mono ?_
    rintro e w2 ⟨rfl, l', hp', hs', hrw', hg'⟩
    have HRW := Lib.hid hrw'
    have HG := Lib.hid hg'
    have HPL := Lib.hid hp'
    have HSO := Lib.hid hs'
    clear hs' hp' hrw' hg' HS
    go_wp2_with fail
    go_ret
    refine ⟨⟨some ⟨r, 0, none⟩, xs.length, c⟩, l', rfl, HPL.out, HSO.out, ⟨?_, ?_, .inr ⟨r, rfl, HCAP.out, HPr.out, HRW.out.lt, HRW.out⟩⟩, ?_⟩
    · simp only [List.length_map]; exact HPL.out.length_eq.symm
    · simp only [List.length_map]; rw [HPL.out.length_eq]; exact HN.out
    · exact HB.out.grown HG.out HB.out.size (fun j hj => by cases hj; exact HPr.out)
end Go.Proofs.YtiehdfokcnphdaaGreatDoor
