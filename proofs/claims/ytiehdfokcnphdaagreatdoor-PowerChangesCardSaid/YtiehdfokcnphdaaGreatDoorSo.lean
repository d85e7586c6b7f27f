/- The stable sort of a short row of members: a permutation of it, rising by keys (the shelf's contract of the insertion sort at structs, laid by hand). -/
import Derived.Test.YtiehdfokcnphdaaGreatDoorGe
import Derived.Test.YtiehdfokcnphdaaGreatDoorIdd
import Derived.Shelf.SlSortCmp.InsertionK
import Derived.Sort.LotA
namespace Go.Proofs.YtiehdfokcnphdaaGreatDoor
open Go.RowKit Go.Shelf Go.Sort

def sortRen : Go.Shelf.Ren := ⟨fun | 20 => 63 | n => n, fun | 0 => 0 | 3 => 3 | 4 => 4 | 22 => 42 | 24 => 48 | 25 => 85 | n => n, fun | n => n⟩
theorem sortLays : Go.Proofs.SlLaysF0.n20 Tryz.prog sortRen := {
  mixed := by kernel_rfl
  f20 := ⟨"slices.insertionSortCmpFunc[enfilade/value.Member]", by decide, Tryz.func63.trans (congrArg some (by kernel_rfl))⟩
  t0 := Tryz.underlying0
  a0 := Tryz.isAgg0
  z0 := Tryz.sizeOf0
  v0 := Tryz.zeroValue0
  t3 := Tryz.underlying3
  a3 := Tryz.isAgg3
  z3 := Tryz.sizeOf3
  v3 := Tryz.zeroValue3
  t4 := Tryz.underlying4
  a4 := Tryz.isAgg4
  z4 := Tryz.sizeOf4
  v4 := Tryz.zeroValue4
  t22 := Tryz.underlying42
  a22 := Tryz.isAgg42
  z22 := Tryz.sizeOf42
  v22 := Tryz.zeroValue42
  t25 := Tryz.underlying85
  a25 := Tryz.isAgg85
  z25 := Tryz.sizeOf85
  v25 := Tryz.zeroValue85 }

theorem compare_lt : ∀ a b : List UInt8, decide (Lib.compareBytes a b < 0) = Sort.ltStr a b
  | [], [] => by simp [Lib.compareBytes, Sort.ltStr]
  | [], _ :: _ => by simp [Lib.compareBytes, Sort.ltStr]
  | _ :: _, [] => by simp [Lib.compareBytes, Sort.ltStr]
  | a :: la, b :: lb => by
    have ih := compare_lt la lb
    unfold Sort.ltStr at ih ⊢
    rw [Bool.eq_iff_iff] at ih ⊢
    simp only [decide_eq_true_eq] at ih ⊢
    rw [List.cons_lt_cons_iff]
    unfold Lib.compareBytes
    by_cases h1 : a < b
    · simp [h1]
    · by_cases h2 : b < a
      · simp only [if_neg h1, if_pos h2]
        constructor
        · intro h; omega
        · rintro (h | ⟨h, _⟩)
          · exact absurd h h1
          · subst h; exact absurd h2 h1
      · have : a = b := by
          apply UInt8.toNat_inj.1
          rw [UInt8.lt_iff_toNat_lt] at h1 h2
          omega
        simp only [if_neg h1, if_neg h2, ih]
        simp [this]

theorem enter_cmp : ∀ args W, Sem.run Tryz.prog (callFunc 28 args) W = .ok (.enter 28 args) W := fun _ _ => by kernel_rfl
theorem cmp_calls (w : World) (a b : Mb) : Calls Tryz.prog 28 #[.agg a.cells, .agg b.cells] w
    fun e w' => e = .returned (.int .i64 (Lib.compareBytes a.key.data.toList b.key.data.toList)) ∧ w' = (w.alloc (.cells a.cells 48)).alloc (.cells b.cells 48) := by
  go_enter Tryz.func28, Tryz.ntmps28
  go_wp2_with fail
  refine (Tryz.strings_Compare a.key b.key _).mono ?_
  rintro e w1 ⟨rfl, rfl⟩
  go_wp2_with fail
  go_ret
  exact ⟨rfl, rfl⟩

instance : Inhabited Mb := ⟨⟨⟨#[]⟩, ⟨0, false, 0, ⟨#[]⟩, ⟨none, 0, 0⟩, ⟨none, 0, 0⟩⟩⟩⟩
abbrev encM (m : Mb) : List Value := m.cells.toList
abbrev cmpM (a b : Mb) : Int := Lib.compareBytes a.key.data.toList b.key.data.toList
theorem swoM : SWO (ltOf cmpM) where
  irrefl x := by show decide (_ < _) = _; rw [compare_lt]; exact Sort.swo_ltStr.irrefl _
  trans x y z h1 h2 := by
    have e : ∀ a b : Mb, ltOf cmpM a b = Sort.ltStr a.key.data.toList b.key.data.toList := fun a b => compare_lt _ _
    rw [e] at *
    exact Sort.swo_ltStr.trans _ _ _ h1 h2
  ntrans x y z h1 h2 := by
    have e : ∀ a b : Mb, ltOf cmpM a b = Sort.ltStr a.key.data.toList b.key.data.toList := fun a b => compare_lt _ _
    rw [e] at *
    exact Sort.swo_ltStr.ntrans _ _ _ h1 h2

theorem getBang {l : List Mb} {i : Nat} {m : Mb} (h : l[i]? = some m) : l.toArray[i]! = m := by
  simp [h]
theorem holds_of_rw {w : World} {r cap : Nat} {l : List Mb} (h : Rw w 48 r cap 7 (mcells l)) : HoldsK encM 7 w r 0 l.toArray := by
  intro j hj
  rw [size_flatK] at hj
  simp at hj
  rw [get_flatK _ _ _ _ (by simpa using hj)]
  have hi : j / 7 < l.length := by omega
  have hm : l[j / 7]? = some l[j / 7] := List.getElem?_eq_getElem hi
  rw [getBang hm]
  have hd : j % 7 < 7 := Nat.mod_lt _ (by decide)
  have hc : (l[j / 7]).cells.toList[j % 7]? = some (encM l[j / 7])[j % 7]! := by
    have : j % 7 < (encM l[j / 7]).length := hd
    rw [List.getElem!_eq_getElem?_getD, List.getElem?_eq_getElem this]
    rfl
  have := h.cell (i := j / 7) (d := j % 7) (c := l[j / 7].cells.toList) (by simp [hm]) hc
  rw [show j / 7 * 7 + j % 7 = 0 + j by omega] at this
  exact ⟨this, h.frozen _⟩

theorem rw_of_holds {w w' : World} {r cap : Nat} {l : List Mb} {d' : Array Mb} {m : Nat} {os : Array Obj} (h : Rw w 48 r cap 7 (mcells l)) (hs : d'.size = l.length) (hw : w' = sortWorldK encM 7 w r 0 m d' os) :
    Rw w' 48 r cap 7 (mcells d'.toList) ∧ w.grownBy w' (some r) := by
  have hH := holdsK_sortWorldK_c encM 7 w r 0 l.toArray d' m os (holds_of_rw h) h.lt (by simpa using hs)
  rw [← hw] at hH
  have hlt := h.lt
  obtain ⟨cur, h1, h2, h3, h4⟩ := h
  have hblk : ∃ cur', w'.heap[r]? = some (.cells cur' 48 (0, 0)) ∧ cur'.size = cur.size := by
    subst hw
    refine ⟨putCells id 0 (flatK encM 7 d') cur, ?_, by simp [putCells]⟩
    unfold sortWorldK putRowK putRow mapBlock Sort.ahead grow
    simp only
    rw [Array.getElem?_append_left (by simpa using hlt), Array.getElem?_modify, h1]
    simp [onCells]
  refine ⟨?_, ?_⟩
  · obtain ⟨cur', g1, g2⟩ := hblk
    simp at h3
    refine ⟨cur', g1, by omega, by simp; omega, ?_⟩
    intro i c hi
    simp at hi
    obtain ⟨y, hy, rfl⟩ := hi
    refine ⟨rfl, fun d hd => ?_⟩
    have hil : i < d'.size := (Array.getElem?_eq_some_iff.1 hy).1
    have := (hH (i * 7 + d) (by rw [size_flatK]; omega)).1
    rw [get_flatK _ _ _ _ (by omega)] at this
    rw [show (i * 7 + d) / 7 = i by omega, show (i * 7 + d) % 7 = d by omega] at this
    have hy2 : d'[i]! = y := by rw [Array.getElem!_eq_getD, Array.getD_eq_getD_getElem?, hy]; rfl
    rw [hy2] at this
    simp only [World.cell?, g1, Nat.zero_add] at this
    simp at this
    rw [this]
    have hd2 : d < (encM y).length := hd
    rw [List.getElem?_eq_getElem hd2]
    simp
  · subst hw
    refine ⟨rfl, rfl, rfl, ?_, ?_⟩
    · simp [sortWorldK, putRowK, putRow, mapBlock, Sort.ahead, grow]
    · intro g hg hne
      unfold sortWorldK putRowK putRow mapBlock Sort.ahead grow
      simp only
      rw [Array.getElem?_append_left (by simpa using hg), Array.getElem?_modify]
      rw [if_neg (fun e => hne (by rw [e]))]

/-- What a sort leaves: the same members, in an order that rises by keys. -/
def SortedOf (l l' : List Mb) : Prop := l'.Perm l ∧ l'.Pairwise (fun a b => Sort.ltStr b.key.data.toList a.key.data.toList = false)
theorem insert_calls (w : World) (r cap : Nat) (l : List Mb) (hn : l.length ≤ 1000000) (hrw : Rw w 48 r cap 7 (mcells l)) :
    Calls Tryz.prog 63 #[.slice (some ⟨r, 0, none⟩) l.length cap, .int .i64 0, .int .i64 l.length, .func (.func 28) #[] #[]] w
      fun e w' => e = .returned (.tuple #[]) ∧ ∃ l', SortedOf l l' ∧ Rw w' 48 r cap 7 (mcells l') ∧ w.grownBy w' (some r) := by
  have h := AnyQ.insertionSortCmpFunc sortLays 7 Tryz.isAgg48 Tryz.sizeOf48 encM (fun _ => rfl) (fun x v hv => by
      simp at hv
      rcases hv with rfl | rfl | rfl | rfl | rfl | rfl | rfl <;> rfl) cmpM 28 #[] r 0 cap 0 l.length l.toArray w enter_cmp
    (fun m os dk _ x y => (cmp_calls _ x y).mono fun e w' ⟨h1, h2⟩ => ⟨h1, 0, #[.cells x.cells 48 (0, 0), .cells y.cells 48 (0, 0)], by
      rw [h2]
      unfold grow World.alloc World.drewN
      simp only [Nat.add_zero, World.mk.injEq, and_true]
      apply Array.ext'
      simp⟩)
    (holds_of_rw hrw) hrw.lt (Nat.zero_le _) (by simp) (by simp; omega)
  simp only [List.size_toArray] at h
  refine h.mono ?_
  rintro e w' ⟨rfl, m, os, hw⟩
  obtain ⟨⟨p1, _, p3⟩, hso⟩ := Sort.insertionSort_holds swoM l.toArray 0 l.length (Nat.zero_le _) (by simp)
  have hsz : (Sort.insertionSort (ltOf cmpM) l.toArray 0 l.length).size = l.length := by simpa using p1
  obtain ⟨r1, r2⟩ := rw_of_holds hrw hsz hw
  refine ⟨rfl, _, ⟨?_, ?_⟩, r1, r2⟩
  · have e1 : (Sort.insertionSort (ltOf cmpM) l.toArray 0 l.length).extract 0 l.length = Sort.insertionSort (ltOf cmpM) l.toArray 0 l.length := by
      rw [Array.extract_eq_self_iff]; omega
    rw [e1] at p3
    simpa using p3
  · rw [List.pairwise_iff_getElem]
    intro i j hi hj hij
    have := hso i j (Nat.zero_le _) hij (by simp at hj; omega)
    have e : ∀ a b : Mb, ltOf cmpM a b = Sort.ltStr a.key.data.toList b.key.data.toList := fun a b => compare_lt _ _
    rw [e] at this
    simp at hi hj
    rw [getElem!_pos _ _ (by omega), getElem!_pos _ _ (by omega)] at this
    simpa using this
end Go.Proofs.YtiehdfokcnphdaaGreatDoor
