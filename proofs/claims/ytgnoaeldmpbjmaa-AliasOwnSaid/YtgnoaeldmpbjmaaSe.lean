/- slices.SortFunc at entries. -/
import Derived.Test.YtgnoaeldmpbjmaaTb
import Derived.Shelf.SlSortCmp.WholeK
import Derived.Shelf.SlSortCmp.NoneTotal
import Derived.Sort.LotA
set_option linter.unusedVariables false
namespace Go.Proofs.Ytgnoaeldmpbjmaa
open Go.RowKit Go.Shelf Go.Sort

def renE : Go.Shelf.Ren := ⟨fun | 6 => 40 | 14 => 48 | 15 => 49 | 20 => 54 | 21 => 55 | 22 => 56 | 23 => 57 | 24 => 58 | 25 => 59 | 26 => 60 | 27 => 61 | 28 => 62 | 29 => 63 | 46 => 68 | 47 => 69 | 48 => 70 | 49 => 71 | 50 => 72 | 57 => 74 | n => n, fun | 0 => 0 | 3 => 3 | 4 => 4 | 5 => 5 | 9 => 9 | 22 => 57 | 24 => 32 | 25 => 83 | 39 => 97 | 45 => 100 | 46 => 101 | 50 => 105 | 53 => 108 | 55 => 110 | 66 => 112 | 70 => 116 | 76 => 120 | 77 => 121 | n => n, fun | n => n⟩
set_option maxRecDepth 100000 in
theorem laysE : Go.Proofs.SlLaysF0.n6 Try.prog renE := {
  mixed := by kernel_rfl
  f6 := ⟨"slices.SortFunc[[]enfilade/alias.Entry,enfilade/alias.Entry]", by decide, Try.func40.trans (congrArg some (by kernel_rfl))⟩
  f14 := ⟨"slices.pdqsortCmpFunc[enfilade/alias.Entry]", by decide, Try.func48.trans (congrArg some (by kernel_rfl))⟩
  f20 := ⟨"slices.insertionSortCmpFunc[enfilade/alias.Entry]", by decide, Try.func54.trans (congrArg some (by kernel_rfl))⟩
  f21 := ⟨"slices.heapSortCmpFunc[enfilade/alias.Entry]", by decide, Try.func55.trans (congrArg some (by kernel_rfl))⟩
  f22 := ⟨"slices.breakPatternsCmpFunc[enfilade/alias.Entry]", by decide, Try.func56.trans (congrArg some (by kernel_rfl))⟩
  f23 := ⟨"slices.choosePivotCmpFunc[enfilade/alias.Entry]", by decide, Try.func57.trans (congrArg some (by kernel_rfl))⟩
  f24 := ⟨"slices.reverseRangeCmpFunc[enfilade/alias.Entry]", by decide, Try.func58.trans (congrArg some (by kernel_rfl))⟩
  f25 := ⟨"slices.partialInsertionSortCmpFunc[enfilade/alias.Entry]", by decide, Try.func59.trans (congrArg some (by kernel_rfl))⟩
  f26 := ⟨"slices.partitionEqualCmpFunc[enfilade/alias.Entry]", by decide, Try.func60.trans (congrArg some (by kernel_rfl))⟩
  f27 := ⟨"slices.partitionCmpFunc[enfilade/alias.Entry]", by decide, Try.func61.trans (congrArg some (by kernel_rfl))⟩
  f46 := ⟨"slices.siftDownCmpFunc[enfilade/alias.Entry]", by decide, Try.func68.trans (congrArg some (by kernel_rfl))⟩
  f49 := ⟨"slices.medianAdjacentCmpFunc[enfilade/alias.Entry]", by decide, Try.func71.trans (congrArg some (by kernel_rfl))⟩
  f50 := ⟨"slices.medianCmpFunc[enfilade/alias.Entry]", by decide, Try.func72.trans (congrArg some (by kernel_rfl))⟩
  f57 := ⟨"slices.order2CmpFunc[enfilade/alias.Entry]", by decide, Try.func74.trans (congrArg some (by kernel_rfl))⟩
  f15 := Try.func49.trans (congrArg some (by kernel_rfl))
  f28 := Try.func62.trans (congrArg some (by kernel_rfl))
  f29 := Try.func63.trans (congrArg some (by kernel_rfl))
  f47 := Try.func69.trans (congrArg some (by kernel_rfl))
  f48 := Try.func70.trans (congrArg some (by kernel_rfl))
  t0 := Try.underlying0
  a0 := Try.isAgg0
  z0 := Try.sizeOf0
  v0 := Try.zeroValue0
  t3 := Try.underlying3
  a3 := Try.isAgg3
  z3 := Try.sizeOf3
  v3 := Try.zeroValue3
  t4 := Try.underlying4
  a4 := Try.isAgg4
  z4 := Try.sizeOf4
  v4 := Try.zeroValue4
  t5 := Try.underlying5
  a5 := Try.isAgg5
  z5 := Try.sizeOf5
  v5 := Try.zeroValue5
  t9 := Try.underlying9
  a9 := Try.isAgg9
  z9 := Try.sizeOf9
  v9 := Try.zeroValue9
  t22 := Try.underlying57
  a22 := Try.isAgg57
  z22 := Try.sizeOf57
  v22 := Try.zeroValue57
  t25 := Try.underlying83
  a25 := Try.isAgg83
  z25 := Try.sizeOf83
  v25 := Try.zeroValue83
  t39 := Try.underlying97
  a39 := Try.isAgg97
  z39 := Try.sizeOf97
  v39 := Try.zeroValue97
  t45 := Try.underlying100
  a45 := Try.isAgg100
  z45 := Try.sizeOf100
  v45 := Try.zeroValue100
  t46 := Try.underlying101
  a46 := Try.isAgg101
  z46 := Try.sizeOf101
  v46 := Try.zeroValue101
  t50 := Try.underlying105
  a50 := Try.isAgg105
  z50 := Try.sizeOf105
  v50 := Try.zeroValue105
  t53 := Try.underlying108
  a53 := Try.isAgg108
  z53 := Try.sizeOf108
  v53 := Try.zeroValue108
  t55 := Try.underlying110
  a55 := Try.isAgg110
  z55 := Try.sizeOf110
  v55 := Try.zeroValue110
  t66 := Try.underlying112
  a66 := Try.isAgg112
  z66 := Try.sizeOf112
  v66 := Try.zeroValue112
  t70 := Try.underlying116
  a70 := Try.isAgg116
  z70 := Try.sizeOf116
  v70 := Try.zeroValue116
  t76 := Try.underlying120
  a76 := Try.isAgg120
  z76 := Try.sizeOf120
  v76 := Try.zeroValue120
  t77 := Try.underlying121
  a77 := Try.isAgg121
  z77 := Try.sizeOf121
  v77 := Try.zeroValue121 }

theorem compare_lt : ∀ a b : List UInt8, decide (Lib.compareBytes a b < 0) = Sort.ltStr a b
  | [], [] => by simp [Lib.compareBytes, Sort.ltStr]
  | [], _ :: _ => by simp [Lib.compareBytes, Sort.ltStr]
  | _ :: _, [] => by simp [Lib.compareBytes, Sort.ltStr]
  | a :: la, b :: lb => by
    have ih := compare_lt la lb
    unfold Sort.ltStr at ih ⊢
    rw [Bool.eq_iff_iff] at ih ⊢
    simp only [decide_eq_true_eq] at ih ⊢
    rw [List.cons_lt_cons_iff]
    unfold Lib.compareBytes
    by_cases h1 : a < b
    · simp [h1]
    · by_cases h2 : b < a
      · simp only [if_neg h1, if_pos h2]
        constructor
        · intro h; omega
        · rintro (h | ⟨h, _⟩)
          · exact absurd h h1
          · subst h; exact absurd h2 h1
      · have : a = b := by
          apply UInt8.toNat_inj.1
          rw [UInt8.lt_iff_toNat_lt] at h1 h2
          omega
        simp only [if_neg h1, if_neg h2, ih]
        simp [this]
abbrev cmpE (a b : En) : Int := Lib.compareBytes a.a.data.toList b.a.data.toList
theorem swoE : SWO (ltOf cmpE) where
  irrefl x := by show decide (_ < _) = _; rw [compare_lt]; exact Sort.swo_ltStr.irrefl _
  trans x y z h1 h2 := by
    have e : ∀ a b : En, ltOf cmpE a b = Sort.ltStr a.a.data.toList b.a.data.toList := fun a b => compare_lt _ _
    rw [e] at *
    exact Sort.swo_ltStr.trans _ _ _ h1 h2
  ntrans x y z h1 h2 := by
    have e : ∀ a b : En, ltOf cmpE a b = Sort.ltStr a.a.data.toList b.a.data.toList := fun a b => compare_lt _ _
    rw [e] at *
    exact Sort.swo_ltStr.ntrans _ _ _ h1 h2
theorem cmpE_calls (w : World) (a b : En) : Calls Try.prog 29 #[.agg a.cells, .agg b.cells] w
    fun e w' => e = .returned (.int .i64 (cmpE a b)) ∧ w' = (w.alloc (.cells a.cells 32)).alloc (.cells b.cells 32) := by
  go_enter Try.func29, Try.ntmps29
  go_wp2_with fail
  refine (Try.strings_Compare a.a b.a _).mono ?_
  rintro e w1 ⟨rfl, rfl⟩
  go_wp2_with fail
  go_ret
  exact ⟨rfl, rfl⟩
instance : Inhabited En := ⟨enZ⟩
abbrev encE (x : En) : List Value := x.cells.toList
abbrev rowsE (l : List En) : List (List Value) := l.map encE
theorem getBangE {l : List En} {i : Nat} {m : En} (h : l[i]? = some m) : l.toArray[i]! = m := by
  simp [h]
theorem holdsE {w : World} {r cap : Nat} {l : List En} (h : Rw w 32 r cap 3 (rowsE l)) : HoldsK encE 3 w r 0 l.toArray := by
  intro j hj
  rw [size_flatK] at hj
  simp at hj
  rw [get_flatK _ _ _ _ (by simpa using hj)]
  have hi : j / 3 < l.length := by omega
  have hm : l[j / 3]? = some l[j / 3] := List.getElem?_eq_getElem hi
  rw [getBangE hm]
  have hd : j % 3 < 3 := Nat.mod_lt _ (by decide)
  have hc : (l[j / 3]).cells.toList[j % 3]? = some (encE l[j / 3])[j % 3]! := by
    have : j % 3 < (encE l[j / 3]).length := hd
    rw [List.getElem!_eq_getElem?_getD, List.getElem?_eq_getElem this]
    rfl
  have := h.cell (i := j / 3) (d := j % 3) (c := l[j / 3].cells.toList) (by simp [hm]) hc
  rw [show j / 3 * 3 + j % 3 = 0 + j by omega] at this
  exact ⟨this, h.frozen _⟩
theorem rowOfE {w w' : World} {r cap : Nat} {l : List En} {d' : Array En} {m : Nat} {os : Array Obj} (h : Rw w 32 r cap 3 (rowsE l)) (hs : d'.size = l.length) (hw : w' = sortWorldK encE 3 w r 0 m d' os) :
    Rw w' 32 r cap 3 (rowsE d'.toList) ∧ w.grownBy w' (some r) := by
  have hH := holdsK_sortWorldK_c encE 3 w r 0 l.toArray d' m os (holdsE h) h.lt (by simpa using hs)
  rw [← hw] at hH
  have hlt := h.lt
  obtain ⟨cur, h1, h2, h3, h4⟩ := h
  have hblk : ∃ cur', w'.heap[r]? = some (.cells cur' 32 (0, 0)) ∧ cur'.size = cur.size := by
    subst hw
    refine ⟨putCells id 0 (flatK encE 3 d') cur, ?_, by simp [putCells]⟩
    unfold sortWorldK putRowK putRow mapBlock Sort.ahead grow
    simp only
    rw [Array.getElem?_append_left (by simpa using hlt), Array.getElem?_modify, h1]
    simp [onCells]
  refine ⟨?_, ?_⟩
  · obtain ⟨cur', g1, g2⟩ := hblk
    simp at h3
    refine ⟨cur', g1, by omega, by simp; omega, ?_⟩
    intro i c hi
    simp at hi
    obtain ⟨y, hy, rfl⟩ := hi
    refine ⟨rfl, fun d hd => ?_⟩
    have hil : i < d'.size := (Array.getElem?_eq_some_iff.1 hy).1
    have := (hH (i * 3 + d) (by rw [size_flatK]; omega)).1
    rw [get_flatK _ _ _ _ (by omega)] at this
    rw [show (i * 3 + d) / 3 = i by omega, show (i * 3 + d) % 3 = d by omega] at this
    have hy2 : d'[i]! = y := by rw [Array.getElem!_eq_getD, Array.getD_eq_getD_getElem?, hy]; rfl
    rw [hy2] at this
    simp only [World.cell?, g1, Nat.zero_add] at this
    simp at this
    rw [this]
    have hd2 : d < (encE y).length := hd
    rw [List.getElem?_eq_getElem hd2]
    simp
  · subst hw
    refine ⟨rfl, rfl, rfl, ?_, ?_⟩
    · simp [sortWorldK, putRowK, putRow, mapBlock, Sort.ahead, grow]
    · intro g hg hne
      unfold sortWorldK putRowK putRow mapBlock Sort.ahead grow
      simp only
      rw [Array.getElem?_append_left (by simpa using hg), Array.getElem?_modify]
      rw [if_neg (fun e => hne (by rw [e]))]
theorem enterCmpE : ∀ args W, Sem.run Try.prog (callFunc 29 args) W = .ok (.enter 29 args) W := fun _ _ => by kernel_rfl
/-- slices.SortFunc: the same elements, in order. -/
theorem sortE_calls (w : World) (r cap : Nat) (l : List En) (hn : l.length ≤ 1000000) (hrw : Rw w 32 r cap 3 (rowsE l)) :
    Calls Try.prog 40 #[.slice (some ⟨r, 0, none⟩) l.length cap, .func (.func 29) #[] #[]] w
      fun e w' => e = .returned (.tuple #[]) ∧ ∃ l' : List En, l'.Perm l ∧ l'.Pairwise (fun a b => ltOf cmpE b a = false) ∧ Rw w' 32 r cap 3 (rowsE l') ∧ w.grownBy w' (some r) := by
  have h := AnyQ.slices_SortFunc laysE 3 Try.isAgg32 Try.sizeOf32 encE (fun _ => rfl) (fun x v hv => by
      simp at hv
      rcases hv with rfl | rfl | rfl <;> rfl) cmpE swoE 29 #[] r 0 cap l.toArray w enterCmpE
    (fun m os dk _ x y => (cmpE_calls _ x y).mono fun e w' ⟨h1, h2⟩ => ⟨h1, 0, #[.cells x.cells 32 (0, 0), .cells y.cells 32 (0, 0)], by
      rw [h2]
      unfold grow World.alloc World.drewN
      simp only [Nat.add_zero, World.mk.injEq, and_true]
      apply Array.ext'
      simp⟩)
    (holdsE hrw) hrw.lt (by simp; omega)
  simp only [List.size_toArray] at h
  refine h.mono ?_
  rintro e w' ⟨rfl, d', m, os, ⟨p1, _, p3⟩, hso, hw⟩
  have hsz : d'.size = l.length := by simpa using p1
  obtain ⟨r1, r2⟩ := rowOfE hrw hsz hw
  refine ⟨rfl, d'.toList, ?_, ?_, r1, r2⟩
  · have e1 : d'.extract 0 l.length = d' := by
      rw [Array.extract_eq_self_iff]; omega
    rw [e1] at p3
    simpa using p3
  · rw [List.pairwise_iff_getElem]
    intro i j hi hj hij
    have := hso i j (Nat.zero_le _) hij (by simp at hj; omega)
    simp at hi hj
    rw [getElem!_pos _ _ (by omega), getElem!_pos _ _ (by omega)] at this
    simpa using this
/-- .. of nothing. -/
theorem sortE_none (w : World) (p : Option Addr) (cap : Nat) (v : Value) :
    Calls Try.prog 40 #[.slice p 0 cap, v] w fun e w' => e = .returned (.tuple #[]) ∧ w' = w := AnyF.slices_SortFunc_none laysE p cap v w
end Go.Proofs.Ytgnoaeldmpbjmaa
