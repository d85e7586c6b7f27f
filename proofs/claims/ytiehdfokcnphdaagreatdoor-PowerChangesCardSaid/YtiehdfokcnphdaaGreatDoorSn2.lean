/- slices.SortFunc at names' numbers. -/
import Derived.Test.YtiehdfokcnphdaaGreatDoorPy
import Derived.Shelf.SlSortCmp.WholeK
import Derived.Shelf.SlSortCmp.NoneTotal
import Derived.Sort.LotA
import Derived.Laws.Cover1
set_option linter.unusedVariables false
namespace Go.Proofs.YtiehdfokcnphdaaGreatDoor
open Go.RowKit Go.Shelf Go.Sort

def renN : Go.Shelf.Ren := ⟨fun | 6 => 56 | 14 => 68 | 15 => 69 | 20 => 74 | 21 => 75 | 22 => 76 | 23 => 77 | 24 => 78 | 25 => 79 | 26 => 80 | 27 => 81 | 28 => 82 | 29 => 83 | 46 => 93 | 47 => 94 | 48 => 95 | 49 => 96 | 50 => 97 | 57 => 102 | n => n, fun | 0 => 0 | 3 => 3 | 4 => 4 | 5 => 5 | 9 => 9 | 22 => 31 | 24 => 91 | 25 => 98 | 39 => 148 | 45 => 152 | 46 => 153 | 50 => 89 | 53 => 159 | 55 => 161 | 66 => 168 | 70 => 58 | 76 => 174 | 77 => 175 | n => n, fun | n => n⟩
set_option maxRecDepth 100000 in
theorem laysN : Go.Proofs.SlLaysF0.n6 Tryz.prog renN := {
  mixed := by kernel_rfl
  f6 := ⟨"slices.SortFunc[[]enfilade/power.Named,enfilade/power.Named]", by decide, Tryz.func56.trans (congrArg some (by kernel_rfl))⟩
  f14 := ⟨"slices.pdqsortCmpFunc[enfilade/power.Named]", by decide, Tryz.func68.trans (congrArg some (by kernel_rfl))⟩
  f20 := ⟨"slices.insertionSortCmpFunc[enfilade/power.Named]", by decide, Tryz.func74.trans (congrArg some (by kernel_rfl))⟩
  f21 := ⟨"slices.heapSortCmpFunc[enfilade/power.Named]", by decide, Tryz.func75.trans (congrArg some (by kernel_rfl))⟩
  f22 := ⟨"slices.breakPatternsCmpFunc[enfilade/power.Named]", by decide, Tryz.func76.trans (congrArg some (by kernel_rfl))⟩
  f23 := ⟨"slices.choosePivotCmpFunc[enfilade/power.Named]", by decide, Tryz.func77.trans (congrArg some (by kernel_rfl))⟩
  f24 := ⟨"slices.reverseRangeCmpFunc[enfilade/power.Named]", by decide, Tryz.func78.trans (congrArg some (by kernel_rfl))⟩
  f25 := ⟨"slices.partialInsertionSortCmpFunc[enfilade/power.Named]", by decide, Tryz.func79.trans (congrArg some (by kernel_rfl))⟩
  f26 := ⟨"slices.partitionEqualCmpFunc[enfilade/power.Named]", by decide, Tryz.func80.trans (congrArg some (by kernel_rfl))⟩
  f27 := ⟨"slices.partitionCmpFunc[enfilade/power.Named]", by decide, Tryz.func81.trans (congrArg some (by kernel_rfl))⟩
  f46 := ⟨"slices.siftDownCmpFunc[enfilade/power.Named]", by decide, Tryz.func93.trans (congrArg some (by kernel_rfl))⟩
  f49 := ⟨"slices.medianAdjacentCmpFunc[enfilade/power.Named]", by decide, Tryz.func96.trans (congrArg some (by kernel_rfl))⟩
  f50 := ⟨"slices.medianCmpFunc[enfilade/power.Named]", by decide, Tryz.func97.trans (congrArg some (by kernel_rfl))⟩
  f57 := ⟨"slices.order2CmpFunc[enfilade/power.Named]", by decide, Tryz.func102.trans (congrArg some (by kernel_rfl))⟩
  f15 := Tryz.func69.trans (congrArg some (by kernel_rfl))
  f28 := Tryz.func82.trans (congrArg some (by kernel_rfl))
  f29 := Tryz.func83.trans (congrArg some (by kernel_rfl))
  f47 := Tryz.func94.trans (congrArg some (by kernel_rfl))
  f48 := Tryz.func95.trans (congrArg some (by kernel_rfl))
  t0 := Tryz.underlying0
  a0 := Tryz.isAgg0
  z0 := Tryz.sizeOf0
  v0 := Tryz.zeroValue0
  t3 := Tryz.underlying3
  a3 := Tryz.isAgg3
  z3 := Tryz.sizeOf3
  v3 := Tryz.zeroValue3
  t4 := Tryz.underlying4
  a4 := Tryz.isAgg4
  z4 := Tryz.sizeOf4
  v4 := Tryz.zeroValue4
  t5 := Tryz.underlying5
  a5 := Tryz.isAgg5
  z5 := Tryz.sizeOf5
  v5 := Tryz.zeroValue5
  t9 := Tryz.underlying9
  a9 := Tryz.isAgg9
  z9 := Tryz.sizeOf9
  v9 := Tryz.zeroValue9
  t22 := Tryz.underlying31
  a22 := Tryz.isAgg31
  z22 := Tryz.sizeOf31
  v22 := Tryz.zeroValue31
  t25 := Tryz.underlying98
  a25 := Tryz.isAgg98
  z25 := Tryz.sizeOf98
  v25 := Tryz.zeroValue98
  t39 := Tryz.underlying148
  a39 := Tryz.isAgg148
  z39 := Tryz.sizeOf148
  v39 := Tryz.zeroValue148
  t45 := Tryz.underlying152
  a45 := Tryz.isAgg152
  z45 := Tryz.sizeOf152
  v45 := Tryz.zeroValue152
  t46 := Tryz.underlying153
  a46 := Tryz.isAgg153
  z46 := Tryz.sizeOf153
  v46 := Tryz.zeroValue153
  t50 := Tryz.underlying89
  a50 := Tryz.isAgg89
  z50 := Tryz.sizeOf89
  v50 := Tryz.zeroValue89
  t53 := Tryz.underlying159
  a53 := Tryz.isAgg159
  z53 := Tryz.sizeOf159
  v53 := Tryz.zeroValue159
  t55 := Tryz.underlying161
  a55 := Tryz.isAgg161
  z55 := Tryz.sizeOf161
  v55 := Tryz.zeroValue161
  t66 := Tryz.underlying168
  a66 := Tryz.isAgg168
  z66 := Tryz.sizeOf168
  v66 := Tryz.zeroValue168
  t70 := Tryz.underlying58
  a70 := Tryz.isAgg58
  z70 := Tryz.sizeOf58
  v70 := Tryz.zeroValue58
  t76 := Tryz.underlying174
  a76 := Tryz.isAgg174
  z76 := Tryz.sizeOf174
  v76 := Tryz.zeroValue174
  t77 := Tryz.underlying175
  a77 := Tryz.isAgg175
  z77 := Tryz.sizeOf175
  v77 := Tryz.zeroValue175 }

instance : Inhabited Nm := ⟨⟨⟨#[]⟩, 0⟩⟩
theorem before_ltStr : ∀ a b : List UInt8, bytesBefore a b = Sort.ltStr a b
  | [], [] => by simp [bytesBefore, Sort.ltStr]
  | [], _ :: _ => by simp [bytesBefore, Sort.ltStr]
  | _ :: _, [] => by simp [bytesBefore, Sort.ltStr]
  | a :: la, b :: lb => by
    have ih := before_ltStr la lb
    unfold Sort.ltStr at ih ⊢
    unfold bytesBefore
    rw [Bool.eq_iff_iff] at ih ⊢
    simp only [Bool.or_eq_true, Bool.and_eq_true, decide_eq_true_eq, beq_iff_eq] at ih ⊢
    rw [List.cons_lt_cons_iff, ih]
theorem less_ltStr (a b : ByteArray) : Op.bytesLess a.toList b.toList = Sort.ltStr a.toList b.toList := by
  rw [← before_ltStr]
  generalize a.toList = a
  generalize b.toList = b
  induction a generalizing b with
  | nil => cases b <;> simp [Op.bytesLess, bytesBefore]
  | cons x l ih => cases b with
    | nil => simp [Op.bytesLess, bytesBefore]
    | cons y r => simp [Op.bytesLess, bytesBefore, ih]
def cmpN (a b : Nm) : Int := if Op.bytesLess a.name.toList b.name.toList then -1 else if a.name.toList == b.name.toList then 0 else 1
theorem ltOf_cmpN (a b : Nm) : ltOf cmpN a b = Sort.ltStr a.name.toList b.name.toList := by
  show decide (cmpN a b < 0) = _
  rw [← less_ltStr]
  unfold cmpN
  cases h1 : Op.bytesLess a.name.toList b.name.toList <;> cases h2 : (a.name.toList == b.name.toList) <;> simp
theorem swoN : SWO (ltOf cmpN) where
  irrefl x := by rw [ltOf_cmpN]; exact Sort.swo_ltStr.irrefl _
  trans x y z h1 h2 := by
    rw [ltOf_cmpN] at *
    exact Sort.swo_ltStr.trans _ _ _ h1 h2
  ntrans x y z h1 h2 := by
    rw [ltOf_cmpN] at *
    exact Sort.swo_ltStr.ntrans _ _ _ h1 h2
theorem isNaN_calls (w : World) (a : ByteArray) : Calls Tryz.prog 59 #[.string a] w fun e w' => e = .returned (.bool false) ∧ w' = w := by
  go_enter Tryz.func59, Tryz.ntmps59
  go_wp2_with fail
  go_ret
  exact ⟨by simp, rfl⟩
def cmpS (a b : ByteArray) : Int := if Op.bytesLess a.toList b.toList then -1 else if a.toList == b.toList then 0 else 1
theorem compare_calls (w : World) (a b : ByteArray) : Calls Tryz.prog 38 #[.string a, .string b] w fun e w' => e = .returned (.int .i64 (cmpS a b)) ∧ w' = w := by
  go_enter Tryz.func38, Tryz.ntmps38
  go_wp2_with fail
  refine (isNaN_calls w a).mono ?_
  rintro e w1 ⟨rfl, rfl⟩
  go_wp2_with fail
  refine (isNaN_calls _ b).mono ?_
  rintro e w1 ⟨rfl, rfl⟩
  cases h1 : Op.bytesLess a.toList b.toList with
  | true =>
    have HZ := Lib.hid (show (-1 : Int) = cmpS a b by unfold cmpS; rw [h1]; rfl)
    go_wp2_with fail
    all_goals first | (go_ret; exact ⟨by rw [← HZ.out]; rfl, rfl⟩) | (exfalso; simp_all; done)
  | false =>
    cases h2 : (a.toList == b.toList) with
    | true =>
      have HZ := Lib.hid (show (0 : Int) = cmpS a b by unfold cmpS; rw [h1, h2]; rfl)
      go_wp2_with fail
      all_goals first | (go_ret; exact ⟨by rw [← HZ.out]; rfl, rfl⟩) | (exfalso; simp_all; done)
    | false =>
      have HZ := Lib.hid (show (1 : Int) = cmpS a b by unfold cmpS; rw [h1, h2]; rfl)
      go_wp2_with fail
      all_goals first | (go_ret; exact ⟨by rw [← HZ.out]; rfl, rfl⟩) | (exfalso; simp_all; done)
theorem cmpN_calls (w : World) (a b : Nm) : Calls Tryz.prog 37 #[.agg a.cells, .agg b.cells] w
    fun e w' => e = .returned (.int .i64 (cmpN a b)) ∧ w' = (w.alloc (.cells a.cells 91)).alloc (.cells b.cells 91) := by
  have HC := Lib.hid (show cmpN a b = cmpS a.name b.name from rfl)
  go_enter Tryz.func37, Tryz.ntmps37
  go_wp2_with fail
  refine (compare_calls _ a.name b.name).mono ?_
  rintro e w1 ⟨rfl, rfl⟩
  go_wp2_with fail
  go_ret
  exact ⟨by rw [HC.out]; rfl, rfl⟩
abbrev encN (x : Nm) : List Value := x.cells.toList
abbrev rowsN (l : List Nm) : List (List Value) := l.map encN
theorem getBangN {l : List Nm} {i : Nat} {m : Nm} (h : l[i]? = some m) : l.toArray[i]! = m := by
  simp [h]
theorem holdsN {w : World} {r cap : Nat} {l : List Nm} (h : Rw w 91 r cap 2 (rowsN l)) : HoldsK encN 2 w r 0 l.toArray := by
  intro j hj
  rw [size_flatK] at hj
  simp at hj
  rw [get_flatK _ _ _ _ (by simpa using hj)]
  have hi : j / 2 < l.length := by omega
  have hm : l[j / 2]? = some l[j / 2] := List.getElem?_eq_getElem hi
  rw [getBangN hm]
  have hd : j % 2 < 2 := Nat.mod_lt _ (by decide)
  have hc : (l[j / 2]).cells.toList[j % 2]? = some (encN l[j / 2])[j % 2]! := by
    have : j % 2 < (encN l[j / 2]).length := hd
    rw [List.getElem!_eq_getElem?_getD, List.getElem?_eq_getElem this]
    rfl
  have := h.cell (i := j / 2) (d := j % 2) (c := l[j / 2].cells.toList) (by simp [hm]) hc
  rw [show j / 2 * 2 + j % 2 = 0 + j by omega] at this
  exact ⟨this, h.frozen _⟩
theorem rowOfN {w w' : World} {r cap : Nat} {l : List Nm} {d' : Array Nm} {m : Nat} {os : Array Obj} (h : Rw w 91 r cap 2 (rowsN l)) (hs : d'.size = l.length) (hw : w' = sortWorldK encN 2 w r 0 m d' os) :
    Rw w' 91 r cap 2 (rowsN d'.toList) ∧ w.grownBy w' (some r) := by
  have hH := holdsK_sortWorldK_c encN 2 w r 0 l.toArray d' m os (holdsN h) h.lt (by simpa using hs)
  rw [← hw] at hH
  have hlt := h.lt
  obtain ⟨cur, h1, h2, h3, h4⟩ := h
  have hblk : ∃ cur', w'.heap[r]? = some (.cells cur' 91 (0, 0)) ∧ cur'.size = cur.size := by
    subst hw
    refine ⟨putCells id 0 (flatK encN 2 d') cur, ?_, by simp [putCells]⟩
    unfold sortWorldK putRowK putRow mapBlock Sort.ahead grow
    simp only
    rw [Array.getElem?_append_left (by simpa using hlt), Array.getElem?_modify, h1]
    simp [onCells]
  refine ⟨?_, ?_⟩
  · obtain ⟨cur', g1, g2⟩ := hblk
    simp at h3
    refine ⟨cur', g1, by omega, by simp; omega, ?_⟩
    intro i c hi
    simp at hi
    obtain ⟨y, hy, rfl⟩ := hi
    refine ⟨rfl, fun d hd => ?_⟩
    have hil : i < d'.size := (Array.getElem?_eq_some_iff.1 hy).1
    have := (hH (i * 2 + d) (by rw [size_flatK]; omega)).1
    rw [get_flatK _ _ _ _ (by omega)] at this
    rw [show (i * 2 + d) / 2 = i by omega, show (i * 2 + d) % 2 = d by omega] at this
    have hy2 : d'[i]! = y := by rw [Array.getElem!_eq_getD, Array.getD_eq_getD_getElem?, hy]; rfl
    rw [hy2] at this
    simp only [World.cell?, g1, Nat.zero_add] at this
    simp at this
    rw [this]
    have hd2 : d < (encN y).length := hd
    rw [List.getElem?_eq_getElem hd2]
    simp
  · subst hw
    refine ⟨rfl, rfl, rfl, ?_, ?_⟩
    · simp [sortWorldK, putRowK, putRow, mapBlock, Sort.ahead, grow]
    · intro g hg hne
      unfold sortWorldK putRowK putRow mapBlock Sort.ahead grow
      simp only
      rw [Array.getElem?_append_left (by simpa using hg), Array.getElem?_modify]
      rw [if_neg (fun e => hne (by rw [e]))]
theorem enterCmpN : ∀ args W, Sem.run Tryz.prog (callFunc 37 args) W = .ok (.enter 37 args) W := fun _ _ => by kernel_rfl
/-- slices.SortFunc: the same elements, in order. -/
theorem sortN_calls (w : World) (r cap : Nat) (l : List Nm) (hn : l.length ≤ 1000000) (hrw : Rw w 91 r cap 2 (rowsN l)) :
    Calls Tryz.prog 56 #[.slice (some ⟨r, 0, none⟩) l.length cap, .func (.func 37) #[] #[]] w
      fun e w' => e = .returned (.tuple #[]) ∧ ∃ l' : List Nm, l'.Perm l ∧ l'.Pairwise (fun a b => ltOf cmpN b a = false) ∧ Rw w' 91 r cap 2 (rowsN l') ∧ w.grownBy w' (some r) := by
  have h := AnyQ.slices_SortFunc laysN 2 Tryz.isAgg91 Tryz.sizeOf91 encN (fun _ => rfl) (fun x v hv => by
      simp at hv
      rcases hv with rfl | rfl <;> rfl) cmpN swoN 37 #[] r 0 cap l.toArray w enterCmpN
    (fun m os dk _ x y => (cmpN_calls _ x y).mono fun e w' ⟨h1, h2⟩ => ⟨h1, 0, #[.cells x.cells 91 (0, 0), .cells y.cells 91 (0, 0)], by
      rw [h2]
      unfold grow World.alloc World.drewN
      simp only [Nat.add_zero, World.mk.injEq, and_true]
      apply Array.ext'
      simp⟩)
    (holdsN hrw) hrw.lt (by simp; omega)
  simp only [List.size_toArray] at h
  refine h.mono ?_
  rintro e w' ⟨rfl, d', m, os, ⟨p1, _, p3⟩, hso, hw⟩
  have hsz : d'.size = l.length := by simpa using p1
  obtain ⟨r1, r2⟩ := rowOfN hrw hsz hw
  refine ⟨rfl, d'.toList, ?_, ?_, r1, r2⟩
  · have e1 : d'.extract 0 l.length = d' := by
      rw [Array.extract_eq_self_iff]; omega
    rw [e1] at p3
    simpa using p3
  · rw [List.pairwise_iff_getElem]
    intro i j hi hj hij
    have := hso i j (Nat.zero_le _) hij (by simp at hj; omega)
    simp at hi hj
    rw [getElem!_pos _ _ (by omega), getElem!_pos _ _ (by omega)] at this
    simpa using this
/-- .. of nothing. -/
theorem sortN_none (w : World) (p : Option Addr) (cap : Nat) (v : Value) :
    Calls Tryz.prog 56 #[.slice p 0 cap, v] w fun e w' => e = .returned (.tuple #[]) ∧ w' = w := AnyF.slices_SortFunc_none laysN p cap v w
end Go.Proofs.YtiehdfokcnphdaaGreatDoor
