/- slices.SortFunc at entries. -/
import Derived.Test.YtgnoaeldmpbjmaaGreatDoorTb
import Derived.Shelf.SlSortCmp.WholeK
import Derived.Shelf.SlSortCmp.NoneTotal
import Derived.Sort.LotA
set_option linter.unusedVariables false
namespace Go.Proofs.YtgnoaeldmpbjmaaGreatDoor
open Go.RowKit Go.Shelf Go.Sort

def renE : Go.Shelf.Ren := ⟨fun | 6 => 71 | 14 => 90 | 15 => 91 | 20 => 97 | 21 => 98 | 22 => 99 | 23 => 100 | 24 => 101 | 25 => 102 | 26 => 103 | 27 => 104 | 28 => 105 | 29 => 106 | 46 => 110 | 47 => 111 | 48 => 112 | 49 => 113 | 50 => 114 | 57 => 119 | n => n, fun | 0 => 0 | 3 => 3 | 4 => 4 | 5 => 5 | 9 => 9 | 22 => 60 | 24 => 49 | 25 => 119 | 39 => 192 | 45 => 195 | 46 => 196 | 50 => 200 | 53 => 203 | 55 => 205 | 66 => 207 | 70 => 211 | 76 => 214 | 77 => 215 | n => n, fun | n => n⟩
set_option maxRecDepth 100000 in
theorem laysE : Go.Proofs.SlLaysF0.n6 Tryz.prog renE := {
  mixed := by kernel_rfl
  f6 := ⟨"slices.SortFunc[[]enfilade/alias.Entry,enfilade/alias.Entry]", by decide, Tryz.func71.trans (congrArg some (by kernel_rfl))⟩
  f14 := ⟨"slices.pdqsortCmpFunc[enfilade/alias.Entry]", by decide, Tryz.func90.trans (congrArg some (by kernel_rfl))⟩
  f20 := ⟨"slices.insertionSortCmpFunc[enfilade/alias.Entry]", by decide, Tryz.func97.trans (congrArg some (by kernel_rfl))⟩
  f21 := ⟨"slices.heapSortCmpFunc[enfilade/alias.Entry]", by decide, Tryz.func98.trans (congrArg some (by kernel_rfl))⟩
  f22 := ⟨"slices.breakPatternsCmpFunc[enfilade/alias.Entry]", by decide, Tryz.func99.trans (congrArg some (by kernel_rfl))⟩
  f23 := ⟨"slices.choosePivotCmpFunc[enfilade/alias.Entry]", by decide, Tryz.func100.trans (congrArg some (by kernel_rfl))⟩
  f24 := ⟨"slices.reverseRangeCmpFunc[enfilade/alias.Entry]", by decide, Tryz.func101.trans (congrArg some (by kernel_rfl))⟩
  f25 := ⟨"slices.partialInsertionSortCmpFunc[enfilade/alias.Entry]", by decide, Tryz.func102.trans (congrArg some (by kernel_rfl))⟩
  f26 := ⟨"slices.partitionEqualCmpFunc[enfilade/alias.Entry]", by decide, Tryz.func103.trans (congrArg some (by kernel_rfl))⟩
  f27 := ⟨"slices.partitionCmpFunc[enfilade/alias.Entry]", by decide, Tryz.func104.trans (congrArg some (by kernel_rfl))⟩
  f46 := ⟨"slices.siftDownCmpFunc[enfilade/alias.Entry]", by decide, Tryz.func110.trans (congrArg some (by kernel_rfl))⟩
  f49 := ⟨"slices.medianAdjacentCmpFunc[enfilade/alias.Entry]", by decide, Tryz.func113.trans (congrArg some (by kernel_rfl))⟩
  f50 := ⟨"slices.medianCmpFunc[enfilade/alias.Entry]", by decide, Tryz.func114.trans (congrArg some (by kernel_rfl))⟩
  f57 := ⟨"slices.order2CmpFunc[enfilade/alias.Entry]", by decide, Tryz.func119.trans (congrArg some (by kernel_rfl))⟩
  f15 := Tryz.func91.trans (congrArg some (by kernel_rfl))
  f28 := Tryz.func105.trans (congrArg some (by kernel_rfl))
  f29 := Tryz.func106.trans (congrArg some (by kernel_rfl))
  f47 := Tryz.func111.trans (congrArg some (by kernel_rfl))
  f48 := Tryz.func112.trans (congrArg some (by kernel_rfl))
  t0 := Tryz.underlying0
  a0 := Tryz.isAgg0
  z0 := Tryz.sizeOf0
  v0 := Tryz.zeroValue0
  t3 := Tryz.underlying3
  a3 := Tryz.isAgg3
  z3 := Tryz.sizeOf3
  v3 := Tryz.zeroValue3
  t4 := Tryz.underlying4
  a4 := Tryz.isAgg4
  z4 := Tryz.sizeOf4
  v4 := Tryz.zeroValue4
  t5 := Tryz.underlying5
  a5 := Tryz.isAgg5
  z5 := Tryz.sizeOf5
  v5 := Tryz.zeroValue5
  t9 := Tryz.underlying9
  a9 := Tryz.isAgg9
  z9 := Tryz.sizeOf9
  v9 := Tryz.zeroValue9
  t22 := Tryz.underlying60
  a22 := Tryz.isAgg60
  z22 := Tryz.sizeOf60
  v22 := Tryz.zeroValue60
  t25 := Tryz.underlying119
  a25 := Tryz.isAgg119
  z25 := Tryz.sizeOf119
  v25 := Tryz.zeroValue119
  t39 := Tryz.underlying192
  a39 := Tryz.isAgg192
  z39 := Tryz.sizeOf192
  v39 := Tryz.zeroValue192
  t45 := Tryz.underlying195
  a45 := Tryz.isAgg195
  z45 := Tryz.sizeOf195
  v45 := Tryz.zeroValue195
  t46 := Tryz.underlying196
  a46 := Tryz.isAgg196
  z46 := Tryz.sizeOf196
  v46 := Tryz.zeroValue196
  t50 := Tryz.underlying200
  a50 := Tryz.isAgg200
  z50 := Tryz.sizeOf200
  v50 := Tryz.zeroValue200
  t53 := Tryz.underlying203
  a53 := Tryz.isAgg203
  z53 := Tryz.sizeOf203
  v53 := Tryz.zeroValue203
  t55 := Tryz.underlying205
  a55 := Tryz.isAgg205
  z55 := Tryz.sizeOf205
  v55 := Tryz.zeroValue205
  t66 := Tryz.underlying207
  a66 := Tryz.isAgg207
  z66 := Tryz.sizeOf207
  v66 := Tryz.zeroValue207
  t70 := Tryz.underlying211
  a70 := Tryz.isAgg211
  z70 := Tryz.sizeOf211
  v70 := Tryz.zeroValue211
  t76 := Tryz.underlying214
  a76 := Tryz.isAgg214
  z76 := Tryz.sizeOf214
  v76 := Tryz.zeroValue214
  t77 := Tryz.underlying215
  a77 := Tryz.isAgg215
  z77 := Tryz.sizeOf215
  v77 := Tryz.zeroValue215 }

theorem compare_lt : ∀ a b : List UInt8, decide (Lib.compareBytes a b < 0) = Sort.ltStr a b
  | [], [] => by simp [Lib.compareBytes, Sort.ltStr]
  | [], _ :: _ => by simp [Lib.compareBytes, Sort.ltStr]
  | _ :: _, [] => by simp [Lib.compareBytes, Sort.ltStr]
  | a :: la, b :: lb => by
    have ih := compare_lt la lb
    unfold Sort.ltStr at ih ⊢
    rw [Bool.eq_iff_iff] at ih ⊢
    simp only [decide_eq_true_eq] at ih ⊢
    rw [List.cons_lt_cons_iff]
    unfold Lib.compareBytes
    by_cases h1 : a < b
    · simp [h1]
    · by_cases h2 : b < a
      · simp only [if_neg h1, if_pos h2]
        constructor
        · intro h; omega
        · rintro (h | ⟨h, _⟩)
          · exact absurd h h1
          · subst h; exact absurd h2 h1
      · have : a = b := by
          apply UInt8.toNat_inj.1
          rw [UInt8.lt_iff_toNat_lt] at h1 h2
          omega
        simp only [if_neg h1, if_neg h2, ih]
        simp [this]
abbrev cmpE (a b : En) : Int := Lib.compareBytes a.a.data.toList b.a.data.toList
theorem swoE : SWO (ltOf cmpE) where
  irrefl x := by show decide (_ < _) = _; rw [compare_lt]; exact Sort.swo_ltStr.irrefl _
  trans x y z h1 h2 := by
    have e : ∀ a b : En, ltOf cmpE a b = Sort.ltStr a.a.data.toList b.a.data.toList := fun a b => compare_lt _ _
    rw [e] at *
    exact Sort.swo_ltStr.trans _ _ _ h1 h2
  ntrans x y z h1 h2 := by
    have e : ∀ a b : En, ltOf cmpE a b = Sort.ltStr a.a.data.toList b.a.data.toList := fun a b => compare_lt _ _
    rw [e] at *
    exact Sort.swo_ltStr.ntrans _ _ _ h1 h2
theorem cmpE_calls (w : World) (a b : En) : Calls Tryz.prog 46 #[.agg a.cells, .agg b.cells] w
    fun e w' => e = .returned (.int .i64 (cmpE a b)) ∧ w' = (w.alloc (.cells a.cells 49)).alloc (.cells b.cells 49) := by
  go_enter Tryz.func46, Tryz.ntmps46
  go_wp2_with fail
  refine (Tryz.strings_Compare a.a b.a _).mono ?_
  rintro e w1 ⟨rfl, rfl⟩
  go_wp2_with fail
  go_ret
  exact ⟨rfl, rfl⟩
instance : Inhabited En := ⟨enZ⟩
abbrev encE (x : En) : List Value := x.cells.toList
abbrev rowsE (l : List En) : List (List Value) := l.map encE
theorem getBangE {l : List En} {i : Nat} {m : En} (h : l[i]? = some m) : l.toArray[i]! = m := by
  simp [h]
theorem holdsE {w : World} {r cap : Nat} {l : List En} (h : Rw w 49 r cap 3 (rowsE l)) : HoldsK encE 3 w r 0 l.toArray := by
  intro j hj
  rw [size_flatK] at hj
  simp at hj
  rw [get_flatK _ _ _ _ (by simpa using hj)]
  have hi : j / 3 < l.length := by omega
  have hm : l[j / 3]? = some l[j / 3] := List.getElem?_eq_getElem hi
  rw [getBangE hm]
  have hd : j % 3 < 3 := Nat.mod_lt _ (by decide)
  have hc : (l[j / 3]).cells.toList[j % 3]? = some (encE l[j / 3])[j % 3]! := by
    have : j % 3 < (encE l[j / 3]).length := hd
    rw [List.getElem!_eq_getElem?_getD, List.getElem?_eq_getElem this]
    rfl
  have := h.cell (i := j / 3) (d := j % 3) (c := l[j / 3].cells.toList) (by simp [hm]) hc
  rw [show j / 3 * 3 + j % 3 = 0 + j by omega] at this
  exact ⟨this, h.frozen _⟩
theorem rowOfE {w w' : World} {r cap : Nat} {l : List En} {d' : Array En} {m : Nat} {os : Array Obj} (h : Rw w 49 r cap 3 (rowsE l)) (hs : d'.size = l.length) (hw : w' = sortWorldK encE 3 w r 0 m d' os) :
    Rw w' 49 r cap 3 (rowsE d'.toList) ∧ w.grownBy w' (some r) := by
  have hH := holdsK_sortWorldK_c encE 3 w r 0 l.toArray d' m os (holdsE h) h.lt (by simpa using hs)
  rw [← hw] at hH
  have hlt := h.lt
  obtain ⟨cur, h1, h2, h3, h4⟩ := h
  have hblk : ∃ cur', w'.heap[r]? = some (.cells cur' 49 (0, 0)) ∧ cur'.size = cur.size := by
    subst hw
    refine ⟨putCells id 0 (flatK encE 3 d') cur, ?_, by simp [putCells]⟩
    unfold sortWorldK putRowK putRow mapBlock Sort.ahead grow
    simp only
    rw [Array.getElem?_append_left (by simpa using hlt), Array.getElem?_modify, h1]
    simp [onCells]
  refine ⟨?_, ?_⟩
  · obtain ⟨cur', g1, g2⟩ := hblk
    simp at h3
    refine ⟨cur', g1, by omega, by simp; omega, ?_⟩
    intro i c hi
    simp at hi
    obtain ⟨y, hy, rfl⟩ := hi
    refine ⟨rfl, fun d hd => ?_⟩
    have hil : i < d'.size := (Array.getElem?_eq_some_iff.1 hy).1
    have := (hH (i * 3 + d) (by rw [size_flatK]; omega)).1
    rw [get_flatK _ _ _ _ (by omega)] at this
    rw [show (i * 3 + d) / 3 = i by omega, show (i * 3 + d) % 3 = d by omega] at this
    have hy2 : d'[i]! = y := by rw [Array.getElem!_eq_getD, Array.getD_eq_getD_getElem?, hy]; rfl
    rw [hy2] at this
    simp only [World.cell?, g1, Nat.zero_add] at this
    simp at this
    rw [this]
    have hd2 : d < (encE y).length := hd
    rw [List.getElem?_eq_getElem hd2]
    simp
  · subst hw
    refine ⟨rfl, rfl, rfl, ?_, ?_⟩
    · simp [sortWorldK, putRowK, putRow, mapBlock, Sort.ahead, grow]
    · intro g hg hne
      unfold sortWorldK putRowK putRow mapBlock Sort.ahead grow
      simp only
      rw [Array.getElem?_append_left (by simpa using hg), Array.getElem?_modify]
      rw [if_neg (fun e => hne (by rw [e]))]
theorem enterCmpE : ∀ args W, Sem.run Tryz.prog (callFunc 46 args) W = .ok (.enter 46 args) W := fun _ _ => by kernel_rfl
/-- slices.SortFunc: the same elements, in order. -/
theorem sortE_calls (w : World) (r cap : Nat) (l : List En) (hn : l.length ≤ 1000000) (hrw : Rw w 49 r cap 3 (rowsE l)) :
    Calls Tryz.prog 71 #[.slice (some ⟨r, 0, none⟩) l.length cap, .func (.func 46) #[] #[]] w
      fun e w' => e = .returned (.tuple #[]) ∧ ∃ l' : List En, l'.Perm l ∧ l'.Pairwise (fun a b => ltOf cmpE b a = false) ∧ Rw w' 49 r cap 3 (rowsE l') ∧ w.grownBy w' (some r) := by
  have h := AnyQ.slices_SortFunc laysE 3 Tryz.isAgg49 Tryz.sizeOf49 encE (fun _ => rfl) (fun x v hv => by
      simp at hv
      rcases hv with rfl | rfl | rfl <;> rfl) cmpE swoE 46 #[] r 0 cap l.toArray w enterCmpE
    (fun m os dk _ x y => (cmpE_calls _ x y).mono fun e w' ⟨h1, h2⟩ => ⟨h1, 0, #[.cells x.cells 49 (0, 0), .cells y.cells 49 (0, 0)], by
      rw [h2]
      unfold grow World.alloc World.drewN
      simp only [Nat.add_zero, World.mk.injEq, and_true]
      apply Array.ext'
      simp⟩)
    (holdsE hrw) hrw.lt (by simp; omega)
  simp only [List.size_toArray] at h
  refine h.mono ?_
  rintro e w' ⟨rfl, d', m, os, ⟨p1, _, p3⟩, hso, hw⟩
  have hsz : d'.size = l.length := by simpa using p1
  obtain ⟨r1, r2⟩ := rowOfE hrw hsz hw
  refine ⟨rfl, d'.toList, ?_, ?_, r1, r2⟩
  · have e1 : d'.extract 0 l.length = d' := by
      rw [Array.extract_eq_self_iff]; omega
    rw [e1] at p3
    simpa using p3
  · rw [List.pairwise_iff_getElem]
    intro i j hi hj hij
    have := hso i j (Nat.zero_le _) hij (by simp at hj; omega)
    simp at hi hj
    rw [getElem!_pos _ _ (by omega), getElem!_pos _ _ (by omega)] at this
    simpa using this
/-- .. of nothing. -/
theorem sortE_none (w : World) (p : Option Addr) (cap : Nat) (v : Value) :
    Calls Tryz.prog 71 #[.slice p 0 cap, v] w fun e w' => e = .returned (.tuple #[]) ∧ w' = w := AnyF.slices_SortFunc_none laysE p cap v w
end Go.Proofs.YtgnoaeldmpbjmaaGreatDoor
