/- How many of a list are of each room. No walk. -/
import Derived.Test.YtgnoaeldmpbjmaaGreatDoorBo
import Derived.Test.YtgnoaeldmpbjmaaGreatDoorOa
set_option linter.unusedVariables false
namespace Go.Proofs.YtgnoaeldmpbjmaaGreatDoor
open Go.RowKit Go.Maps Go.Sort

theorem getS_ins (k : ByteArray) (v : Value) (k' : ByteArray) : ∀ m : List (ByteArray × Value), (∀ e ∈ m, keyIs k e = false) → getS (insS (k, v) m) k' = if (k.data.toList == k'.data.toList) = true then some v else getS m k'
  | [], _ => by
    unfold getS insS
    rw [List.find?_cons]
    show (match keyIs k' (k, v) with | true => _ | false => _ : Option _).map _ = _
    have : keyIs k' (k, v) = (k.data.toList == k'.data.toList) := rfl
    rw [this]
    cases (k.data.toList == k'.data.toList) <;> rfl
  | y :: r, h => by
    have hy := h y (by simp)
    have ih := getS_ins k v k' r (fun e he => h e (by simp [he]))
    unfold insS
    split
    · unfold getS
      rw [List.find?_cons]
      have : keyIs k' (k, v) = (k.data.toList == k'.data.toList) := rfl
      rw [this]
      cases (k.data.toList == k'.data.toList) <;> rfl
    · unfold getS at ih ⊢
      rw [List.find?_cons, List.find?_cons]
      cases hk : keyIs k' y with
      | false => exact ih
      | true =>
        have hne : (k.data.toList == k'.data.toList) = false := by
          rw [beq_eq_false_iff_ne]
          intro e
          unfold keyIs at hy hk
          rw [e] at hy
          rw [hy] at hk
          cases hk
        rw [hne]
        rfl
theorem getS_del (k k' : ByteArray) (hne : (k.data.toList == k'.data.toList) = false) : ∀ m : List (ByteArray × Value), getS (delS k m) k' = getS m k'
  | [] => rfl
  | y :: r => by
    have ih := getS_del k k' hne r
    unfold getS delS at ih ⊢
    rw [List.filter_cons, List.find?_cons]
    cases hk : keyIs k y with
    | false =>
      simp only [Bool.not_false, if_true]
      rw [List.find?_cons]
      cases keyIs k' y
      · exact ih
      · rfl
    | true =>
      have h2 : keyIs k' y = false := by
        unfold keyIs at hk ⊢
        rw [beq_eq_false_iff_ne] at hne ⊢
        intro e
        exact hne (by rw [← e]; exact (by simpa using hk : y.1.data.toList = k.data.toList).symm)
      simp only [Bool.not_true, Bool.false_eq_true, if_false, h2]
      exact ih
theorem getS_put (k : ByteArray) (v : Value) (l : List (ByteArray × Value)) (k' : ByteArray) : getS (putS k v l) k' = if (k.data.toList == k'.data.toList) = true then some v else getS l k' := by
  unfold putS
  rw [getS_ins k v k' (delS k l) (fun e he => by
    have := (List.mem_filter.1 he).2
    simpa using this)]
  by_cases h : (k.data.toList == k'.data.toList) = true
  · rw [if_pos h, if_pos h]
  · rw [if_neg h, if_neg h, getS_del k k' (by simpa using h)]
def cntR (l : List En) (room : ByteArray) : Nat := l.countP fun x => sameB x.r room
theorem cnt_of (l : List En) (room : ByteArray) : (ofRoom room l).length = cntR l room := by simp [ofRoom, cntR, List.countP_eq_length_filter]
/-- The rooms' map behind a list. -/
def RoomsOk (rl : List (ByteArray × Value)) (l : List En) : Prop := ∀ k : ByteArray, getS rl k = if 0 < cntR l k then some (.int .i64 (cntR l k)) else none
theorem rooms_nil : RoomsOk [] [] := fun k => rfl
theorem sameB_iff (a b : ByteArray) : sameB a b = (a.data.toList == b.data.toList) := by unfold sameB; rw [ByteArray.toList_eq, ByteArray.toList_eq]
theorem rooms_old {rl : List (ByteArray × Value)} {l : List En} (h : RoomsOk rl l) (k : ByteArray) : (getS rl k).getD (.int .i64 0) = .int .i64 (cntR l k) := by
  rw [h k]
  by_cases hc : 0 < cntR l k
  · rw [if_pos hc]; rfl
  · rw [if_neg hc]
    have : cntR l k = 0 := by omega
    rw [this]; rfl
theorem cnt_snoc (l : List En) (x : En) (k : ByteArray) : cntR (l ++ [x]) k = cntR l k + if sameB x.r k = true then 1 else 0 := by
  unfold cntR
  rw [List.countP_append, List.countP_cons]
  simp
theorem rooms_step {rl : List (ByteArray × Value)} {l : List En} (h : RoomsOk rl l) (x : En) : RoomsOk (putS x.r (.int .i64 ((cntR l x.r : Int) + 1)) rl) (l ++ [x]) := fun k => by
  rw [getS_put, cnt_snoc, sameB_iff]
  by_cases hk : (x.r.data.toList == k.data.toList) = true
  · rw [if_pos hk, if_pos hk, if_pos (by omega)]
    have : x.r = k := ba_eq (by simpa using hk)
    subst this
    rfl
  · rw [if_neg hk, if_neg hk, Nat.add_zero]
    exact h k
theorem put_length (k : ByteArray) (v : Value) (l : List (ByteArray × Value)) : (putS k v l).length ≤ l.length + 1 := by
  have hi : ∀ (x : ByteArray × Value) (m : List (ByteArray × Value)), (insS x m).length = m.length + 1 := by
    intro x m
    induction m with
    | nil => rfl
    | cons y r ih =>
      unfold insS
      split
      · rfl
      · simp [ih]
  unfold putS
  rw [hi]
  have := List.length_filter_le (fun e => !keyIs k e) l
  unfold delS
  omega
/-- How many of the list have a room that came already. -/
def seenN (left : Lit → Bool) (l : List En) : Nat := l.countP fun e => !left (lk e.r)
theorem seen_none {left : Lit → Bool} {l : List En} (h : ∀ e ∈ l, left (lk e.r) = true) : seenN left l = 0 := by
  unfold seenN
  rw [List.countP_eq_zero]
  intro e he
  rw [h e he]; simp
theorem seen_all {left : Lit → Bool} {l : List En} (h : ∀ z, left z = false) : seenN left l = l.length := by
  unfold seenN
  rw [List.countP_eq_length]
  intro e _
  rw [h]; rfl
theorem seen_step {left : Lit → Bool} (x : ByteArray) (hl : left (lk x) = true) : ∀ l : List En, seenN (fun z => left z && !z.sameKey (lk x)) l = seenN left l + cntR l x
  | [] => rfl
  | e :: l => by
    have ih := seen_step x hl l
    unfold seenN cntR at ih ⊢
    rw [List.countP_cons, List.countP_cons, List.countP_cons, ih]
    have h1 : (lk e.r).sameKey (lk x) = (e.r.data.toList == x.data.toList) := lk_same _ _
    have h2 := sameB_iff e.r x
    cases hk : (e.r.data.toList == x.data.toList) with
    | true =>
      have : e.r = x := ba_eq (by simpa using hk)
      subst this
      rw [hk] at h1 h2
      simp only [h1, h2, hl]
      simp
      omega
    | false =>
      rw [hk] at h1 h2
      simp only [h1, h2]
      cases left (lk e.r) <;> simp <;> omega
theorem rooms_has {rl : List (ByteArray × Value)} {l : List En} (h : RoomsOk rl l) {e : En} (he : e ∈ l) : Maps.has (MD rl) (lk e.r) = true := by
  rw [MD_has, h e.r, if_pos]
  · rfl
  · unfold cntR
    exact List.countP_pos_iff.2 ⟨e, he, by simp [sameB]⟩
theorem rooms_at {rl : List (ByteArray × Value)} {l : List En} (h : RoomsOk rl l) {x : ByteArray} {c : Value} (hh : Maps.has (MD rl) (lk x) = true) (hat : ∀ zd, (MD rl).atKey (lk x) zd = .held c) : c = .int .i64 (cntR l x) := by
  have h1 := hat (.held undef)
  rw [MD_atKey] at h1
  rw [MD_has, h x] at hh
  rw [h x] at h1
  by_cases hc : 0 < cntR l x
  · rw [if_pos hc] at h1
    injection h1 with h1
    exact h1.symm
  · rw [if_neg hc] at hh
    cases hh
/-- A room's aliases: each there, of it, rising. -/
theorem of_at {l : List En} (hl : RiseE l) {room : ByteArray} {i : Nat} {a : ByteArray} (h : (ofRoom room l)[i]? = some a) : ∃ x ∈ l, x.a = a ∧ (x.r.toList == room.toList) = true ∧ getE l a = some x := by
  unfold ofRoom at h
  rw [List.getElem?_map] at h
  obtain ⟨x, hx, rfl⟩ := Option.map_eq_some_iff.1 h
  have hm := List.mem_filter.1 (List.mem_of_getElem? hx)
  exact ⟨x, hm.1, rfl, hm.2, hl.get hm.1⟩
theorem of_rise {l : List En} (hl : RiseE l) {room : ByteArray} {i : Nat} {a b : ByteArray} (h1 : (ofRoom room l)[i]? = some a) (h2 : (ofRoom room l)[i + 1]? = some b) : Op.bytesLess a.toList b.toList = true := by
  have hp : (ofRoom room l).Pairwise fun a b => bytesBefore a.data.toList b.data.toList = true := by
    unfold ofRoom
    rw [List.pairwise_map]
    exact List.Pairwise.filter _ hl
  rw [less_before]
  obtain ⟨h3, h4⟩ := List.getElem?_eq_some_iff.1 h1
  obtain ⟨h5, h6⟩ := List.getElem?_eq_some_iff.1 h2
  have := List.pairwise_iff_getElem.1 hp i (i + 1) h3 h5 (by omega)
  rw [h4, h6] at this
  exact this
end Go.Proofs.YtgnoaeldmpbjmaaGreatDoor
