/- slices.SortFunc at names' numbers. -/
import Derived.Test.YtiehdfokcnphdaaPy
import Derived.Shelf.SlSortCmp.WholeK
import Derived.Shelf.SlSortCmp.NoneTotal
import Derived.Sort.LotA
import Derived.Laws.Cover1
set_option linter.unusedVariables false
namespace Go.Proofs.Ytiehdfokcnphdaa
open Go.RowKit Go.Shelf Go.Sort

def renN : Go.Shelf.Ren := ⟨fun | 6 => 52 | 14 => 61 | 15 => 62 | 20 => 72 | 21 => 73 | 22 => 74 | 23 => 75 | 24 => 76 | 25 => 77 | 26 => 78 | 27 => 79 | 28 => 80 | 29 => 81 | 46 => 86 | 47 => 87 | 48 => 88 | 49 => 89 | 50 => 90 | 57 => 94 | n => n, fun | 0 => 0 | 3 => 3 | 4 => 4 | 5 => 5 | 9 => 9 | 22 => 28 | 24 => 81 | 25 => 100 | 39 => 111 | 45 => 125 | 46 => 126 | 50 => 60 | 53 => 132 | 55 => 134 | 66 => 136 | 70 => 71 | 76 => 142 | 77 => 143 | n => n, fun | n => n⟩
set_option maxRecDepth 100000 in
theorem laysN : Go.Proofs.SlLaysF0.n6 Try.prog renN := {
  mixed := by kernel_rfl
  f6 := ⟨"slices.SortFunc[[]enfilade/power.Named,enfilade/power.Named]", by decide, Try.func52.trans (congrArg some (by kernel_rfl))⟩
  f14 := ⟨"slices.pdqsortCmpFunc[enfilade/power.Named]", by decide, Try.func61.trans (congrArg some (by kernel_rfl))⟩
  f20 := ⟨"slices.insertionSortCmpFunc[enfilade/power.Named]", by decide, Try.func72.trans (congrArg some (by kernel_rfl))⟩
  f21 := ⟨"slices.heapSortCmpFunc[enfilade/power.Named]", by decide, Try.func73.trans (congrArg some (by kernel_rfl))⟩
  f22 := ⟨"slices.breakPatternsCmpFunc[enfilade/power.Named]", by decide, Try.func74.trans (congrArg some (by kernel_rfl))⟩
  f23 := ⟨"slices.choosePivotCmpFunc[enfilade/power.Named]", by decide, Try.func75.trans (congrArg some (by kernel_rfl))⟩
  f24 := ⟨"slices.reverseRangeCmpFunc[enfilade/power.Named]", by decide, Try.func76.trans (congrArg some (by kernel_rfl))⟩
  f25 := ⟨"slices.partialInsertionSortCmpFunc[enfilade/power.Named]", by decide, Try.func77.trans (congrArg some (by kernel_rfl))⟩
  f26 := ⟨"slices.partitionEqualCmpFunc[enfilade/power.Named]", by decide, Try.func78.trans (congrArg some (by kernel_rfl))⟩
  f27 := ⟨"slices.partitionCmpFunc[enfilade/power.Named]", by decide, Try.func79.trans (congrArg some (by kernel_rfl))⟩
  f46 := ⟨"slices.siftDownCmpFunc[enfilade/power.Named]", by decide, Try.func86.trans (congrArg some (by kernel_rfl))⟩
  f49 := ⟨"slices.medianAdjacentCmpFunc[enfilade/power.Named]", by decide, Try.func89.trans (congrArg some (by kernel_rfl))⟩
  f50 := ⟨"slices.medianCmpFunc[enfilade/power.Named]", by decide, Try.func90.trans (congrArg some (by kernel_rfl))⟩
  f57 := ⟨"slices.order2CmpFunc[enfilade/power.Named]", by decide, Try.func94.trans (congrArg some (by kernel_rfl))⟩
  f15 := Try.func62.trans (congrArg some (by kernel_rfl))
  f28 := Try.func80.trans (congrArg some (by kernel_rfl))
  f29 := Try.func81.trans (congrArg some (by kernel_rfl))
  f47 := Try.func87.trans (congrArg some (by kernel_rfl))
  f48 := Try.func88.trans (congrArg some (by kernel_rfl))
  t0 := Try.underlying0
  a0 := Try.isAgg0
  z0 := Try.sizeOf0
  v0 := Try.zeroValue0
  t3 := Try.underlying3
  a3 := Try.isAgg3
  z3 := Try.sizeOf3
  v3 := Try.zeroValue3
  t4 := Try.underlying4
  a4 := Try.isAgg4
  z4 := Try.sizeOf4
  v4 := Try.zeroValue4
  t5 := Try.underlying5
  a5 := Try.isAgg5
  z5 := Try.sizeOf5
  v5 := Try.zeroValue5
  t9 := Try.underlying9
  a9 := Try.isAgg9
  z9 := Try.sizeOf9
  v9 := Try.zeroValue9
  t22 := Try.underlying28
  a22 := Try.isAgg28
  z22 := Try.sizeOf28
  v22 := Try.zeroValue28
  t25 := Try.underlying100
  a25 := Try.isAgg100
  z25 := Try.sizeOf100
  v25 := Try.zeroValue100
  t39 := Try.underlying111
  a39 := Try.isAgg111
  z39 := Try.sizeOf111
  v39 := Try.zeroValue111
  t45 := Try.underlying125
  a45 := Try.isAgg125
  z45 := Try.sizeOf125
  v45 := Try.zeroValue125
  t46 := Try.underlying126
  a46 := Try.isAgg126
  z46 := Try.sizeOf126
  v46 := Try.zeroValue126
  t50 := Try.underlying60
  a50 := Try.isAgg60
  z50 := Try.sizeOf60
  v50 := Try.zeroValue60
  t53 := Try.underlying132
  a53 := Try.isAgg132
  z53 := Try.sizeOf132
  v53 := Try.zeroValue132
  t55 := Try.underlying134
  a55 := Try.isAgg134
  z55 := Try.sizeOf134
  v55 := Try.zeroValue134
  t66 := Try.underlying136
  a66 := Try.isAgg136
  z66 := Try.sizeOf136
  v66 := Try.zeroValue136
  t70 := Try.underlying71
  a70 := Try.isAgg71
  z70 := Try.sizeOf71
  v70 := Try.zeroValue71
  t76 := Try.underlying142
  a76 := Try.isAgg142
  z76 := Try.sizeOf142
  v76 := Try.zeroValue142
  t77 := Try.underlying143
  a77 := Try.isAgg143
  z77 := Try.sizeOf143
  v77 := Try.zeroValue143 }

instance : Inhabited Nm := ⟨⟨⟨#[]⟩, 0⟩⟩
theorem before_ltStr : ∀ a b : List UInt8, bytesBefore a b = Sort.ltStr a b
  | [], [] => by simp [bytesBefore, Sort.ltStr]
  | [], _ :: _ => by simp [bytesBefore, Sort.ltStr]
  | _ :: _, [] => by simp [bytesBefore, Sort.ltStr]
  | a :: la, b :: lb => by
    have ih := before_ltStr la lb
    unfold Sort.ltStr at ih ⊢
    unfold bytesBefore
    rw [Bool.eq_iff_iff] at ih ⊢
    simp only [Bool.or_eq_true, Bool.and_eq_true, decide_eq_true_eq, beq_iff_eq] at ih ⊢
    rw [List.cons_lt_cons_iff, ih]
theorem less_ltStr (a b : ByteArray) : Op.bytesLess a.toList b.toList = Sort.ltStr a.toList b.toList := by
  rw [← before_ltStr]
  generalize a.toList = a
  generalize b.toList = b
  induction a generalizing b with
  | nil => cases b <;> simp [Op.bytesLess, bytesBefore]
  | cons x l ih => cases b with
    | nil => simp [Op.bytesLess, bytesBefore]
    | cons y r => simp [Op.bytesLess, bytesBefore, ih]
def cmpN (a b : Nm) : Int := if Op.bytesLess a.name.toList b.name.toList then -1 else if a.name.toList == b.name.toList then 0 else 1
theorem ltOf_cmpN (a b : Nm) : ltOf cmpN a b = Sort.ltStr a.name.toList b.name.toList := by
  show decide (cmpN a b < 0) = _
  rw [← less_ltStr]
  unfold cmpN
  cases h1 : Op.bytesLess a.name.toList b.name.toList <;> cases h2 : (a.name.toList == b.name.toList) <;> simp
theorem swoN : SWO (ltOf cmpN) where
  irrefl x := by rw [ltOf_cmpN]; exact Sort.swo_ltStr.irrefl _
  trans x y z h1 h2 := by
    rw [ltOf_cmpN] at *
    exact Sort.swo_ltStr.trans _ _ _ h1 h2
  ntrans x y z h1 h2 := by
    rw [ltOf_cmpN] at *
    exact Sort.swo_ltStr.ntrans _ _ _ h1 h2
theorem isNaN_calls (w : World) (a : ByteArray) : Calls Try.prog 55 #[.string a] w fun e w' => e = .returned (.bool false) ∧ w' = w := by
  go_enter Try.func55, Try.ntmps55
  go_wp2_with fail
  go_ret
  exact ⟨by simp, rfl⟩
def cmpS (a b : ByteArray) : Int := if Op.bytesLess a.toList b.toList then -1 else if a.toList == b.toList then 0 else 1
theorem compare_calls (w : World) (a b : ByteArray) : Calls Try.prog 44 #[.string a, .string b] w fun e w' => e = .returned (.int .i64 (cmpS a b)) ∧ w' = w := by
  go_enter Try.func44, Try.ntmps44
  go_wp2_with fail
  refine (isNaN_calls w a).mono ?_
  rintro e w1 ⟨rfl, rfl⟩
  go_wp2_with fail
  refine (isNaN_calls _ b).mono ?_
  rintro e w1 ⟨rfl, rfl⟩
  cases h1 : Op.bytesLess a.toList b.toList with
  | true =>
    have HZ := Lib.hid (show (-1 : Int) = cmpS a b by unfold cmpS; rw [h1]; rfl)
    go_wp2_with fail
    all_goals first | (go_ret; exact ⟨by rw [← HZ.out]; rfl, rfl⟩) | (exfalso; simp_all; done)
  | false =>
    cases h2 : (a.toList == b.toList) with
    | true =>
      have HZ := Lib.hid (show (0 : Int) = cmpS a b by unfold cmpS; rw [h1, h2]; rfl)
      go_wp2_with fail
      all_goals first | (go_ret; exact ⟨by rw [← HZ.out]; rfl, rfl⟩) | (exfalso; simp_all; done)
    | false =>
      have HZ := Lib.hid (show (1 : Int) = cmpS a b by unfold cmpS; rw [h1, h2]; rfl)
      go_wp2_with fail
      all_goals first | (go_ret; exact ⟨by rw [← HZ.out]; rfl, rfl⟩) | (exfalso; simp_all; done)
theorem cmpN_calls (w : World) (a b : Nm) : Calls Try.prog 43 #[.agg a.cells, .agg b.cells] w
    fun e w' => e = .returned (.int .i64 (cmpN a b)) ∧ w' = (w.alloc (.cells a.cells 81)).alloc (.cells b.cells 81) := by
  have HC := Lib.hid (show cmpN a b = cmpS a.name b.name from rfl)
  go_enter Try.func43, Try.ntmps43
  go_wp2_with fail
  refine (compare_calls _ a.name b.name).mono ?_
  rintro e w1 ⟨rfl, rfl⟩
  go_wp2_with fail
  go_ret
  exact ⟨by rw [HC.out]; rfl, rfl⟩
abbrev encN (x : Nm) : List Value := x.cells.toList
abbrev rowsN (l : List Nm) : List (List Value) := l.map encN
theorem getBangN {l : List Nm} {i : Nat} {m : Nm} (h : l[i]? = some m) : l.toArray[i]! = m := by
  simp [h]
theorem holdsN {w : World} {r cap : Nat} {l : List Nm} (h : Rw w 81 r cap 2 (rowsN l)) : HoldsK encN 2 w r 0 l.toArray := by
  intro j hj
  rw [size_flatK] at hj
  simp at hj
  rw [get_flatK _ _ _ _ (by simpa using hj)]
  have hi : j / 2 < l.length := by omega
  have hm : l[j / 2]? = some l[j / 2] := List.getElem?_eq_getElem hi
  rw [getBangN hm]
  have hd : j % 2 < 2 := Nat.mod_lt _ (by decide)
  have hc : (l[j / 2]).cells.toList[j % 2]? = some (encN l[j / 2])[j % 2]! := by
    have : j % 2 < (encN l[j / 2]).length := hd
    rw [List.getElem!_eq_getElem?_getD, List.getElem?_eq_getElem this]
    rfl
  have := h.cell (i := j / 2) (d := j % 2) (c := l[j / 2].cells.toList) (by simp [hm]) hc
  rw [show j / 2 * 2 + j % 2 = 0 + j by omega] at this
  exact ⟨this, h.frozen _⟩
theorem rowOfN {w w' : World} {r cap : Nat} {l : List Nm} {d' : Array Nm} {m : Nat} {os : Array Obj} (h : Rw w 81 r cap 2 (rowsN l)) (hs : d'.size = l.length) (hw : w' = sortWorldK encN 2 w r 0 m d' os) :
    Rw w' 81 r cap 2 (rowsN d'.toList) ∧ w.grownBy w' (some r) := by
  have hH := holdsK_sortWorldK_c encN 2 w r 0 l.toArray d' m os (holdsN h) h.lt (by simpa using hs)
  rw [← hw] at hH
  have hlt := h.lt
  obtain ⟨cur, h1, h2, h3, h4⟩ := h
  have hblk : ∃ cur', w'.heap[r]? = some (.cells cur' 81 (0, 0)) ∧ cur'.size = cur.size := by
    subst hw
    refine ⟨putCells id 0 (flatK encN 2 d') cur, ?_, by simp [putCells]⟩
    unfold sortWorldK putRowK putRow mapBlock Sort.ahead grow
    simp only
    rw [Array.getElem?_append_left (by simpa using hlt), Array.getElem?_modify, h1]
    simp [onCells]
  refine ⟨?_, ?_⟩
  · obtain ⟨cur', g1, g2⟩ := hblk
    simp at h3
    refine ⟨cur', g1, by omega, by simp; omega, ?_⟩
    intro i c hi
    simp at hi
    obtain ⟨y, hy, rfl⟩ := hi
    refine ⟨rfl, fun d hd => ?_⟩
    have hil : i < d'.size := (Array.getElem?_eq_some_iff.1 hy).1
    have := (hH (i * 2 + d) (by rw [size_flatK]; omega)).1
    rw [get_flatK _ _ _ _ (by omega)] at this
    rw [show (i * 2 + d) / 2 = i by omega, show (i * 2 + d) % 2 = d by omega] at this
    have hy2 : d'[i]! = y := by rw [Array.getElem!_eq_getD, Array.getD_eq_getD_getElem?, hy]; rfl
    rw [hy2] at this
    simp only [World.cell?, g1, Nat.zero_add] at this
    simp at this
    rw [this]
    have hd2 : d < (encN y).length := hd
    rw [List.getElem?_eq_getElem hd2]
    simp
  · subst hw
    refine ⟨rfl, rfl, rfl, ?_, ?_⟩
    · simp [sortWorldK, putRowK, putRow, mapBlock, Sort.ahead, grow]
    · intro g hg hne
      unfold sortWorldK putRowK putRow mapBlock Sort.ahead grow
      simp only
      rw [Array.getElem?_append_left (by simpa using hg), Array.getElem?_modify]
      rw [if_neg (fun e => hne (by rw [e]))]
theorem enterCmpN : ∀ args W, Sem.run Try.prog (callFunc 43 args) W = .ok (.enter 43 args) W := fun _ _ => by kernel_rfl
/-- slices.SortFunc: the same elements, in order. -/
theorem sortN_calls (w : World) (r cap : Nat) (l : List Nm) (hn : l.length ≤ 1000000) (hrw : Rw w 81 r cap 2 (rowsN l)) :
    Calls Try.prog 52 #[.slice (some ⟨r, 0, none⟩) l.length cap, .func (.func 43) #[] #[]] w
      fun e w' => e = .returned (.tuple #[]) ∧ ∃ l' : List Nm, l'.Perm l ∧ l'.Pairwise (fun a b => ltOf cmpN b a = false) ∧ Rw w' 81 r cap 2 (rowsN l') ∧ w.grownBy w' (some r) := by
  have h := AnyQ.slices_SortFunc laysN 2 Try.isAgg81 Try.sizeOf81 encN (fun _ => rfl) (fun x v hv => by
      simp at hv
      rcases hv with rfl | rfl <;> rfl) cmpN swoN 43 #[] r 0 cap l.toArray w enterCmpN
    (fun m os dk _ x y => (cmpN_calls _ x y).mono fun e w' ⟨h1, h2⟩ => ⟨h1, 0, #[.cells x.cells 81 (0, 0), .cells y.cells 81 (0, 0)], by
      rw [h2]
      unfold grow World.alloc World.drewN
      simp only [Nat.add_zero, World.mk.injEq, and_true]
      apply Array.ext'
      simp⟩)
    (holdsN hrw) hrw.lt (by simp; omega)
  simp only [List.size_toArray] at h
  refine h.mono ?_
  rintro e w' ⟨rfl, d', m, os, ⟨p1, _, p3⟩, hso, hw⟩
  have hsz : d'.size = l.length := by simpa using p1
  obtain ⟨r1, r2⟩ := rowOfN hrw hsz hw
  refine ⟨rfl, d'.toList, ?_, ?_, r1, r2⟩
  · have e1 : d'.extract 0 l.length = d' := by
      rw [Array.extract_eq_self_iff]; omega
    rw [e1] at p3
    simpa using p3
  · rw [List.pairwise_iff_getElem]
    intro i j hi hj hij
    have := hso i j (Nat.zero_le _) hij (by simp at hj; omega)
    simp at hi hj
    rw [getElem!_pos _ _ (by omega), getElem!_pos _ _ (by omega)] at this
    simpa using this
/-- .. of nothing. -/
theorem sortN_none (w : World) (p : Option Addr) (cap : Nat) (v : Value) :
    Calls Try.prog 52 #[.slice p 0 cap, v] w fun e w' => e = .returned (.tuple #[]) ∧ w' = w := AnyF.slices_SortFunc_none laysN p cap v w
end Go.Proofs.Ytiehdfokcnphdaa
