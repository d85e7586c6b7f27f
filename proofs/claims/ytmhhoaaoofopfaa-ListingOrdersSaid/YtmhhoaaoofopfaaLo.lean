/- Summaries in order: put in at the place that a search finds. Plain law, no walk. -/
import Derived.Test.YtmhhoaaoofopfaaBy
set_option linter.unusedVariables false
namespace Go.Proofs.Ytmhhoaaoofopfaa
open Go.RowKit

/-- A room's summary. -/
structure Sm where
  room : ByteArray
  typ : ByteArray
  name : ByteArray
  topic : ByteArray
  alias_ : ByteArray
  avatar : ByteArray
  rule : ByteArray
  joined : Int
  readable : Bool
  guests : Bool
abbrev Sm.cells (x : Sm) : Array Value := #[.string x.room, .string x.typ, .string x.name, .string x.topic, .string x.alias_, .string x.avatar, .string x.rule, .int .i64 x.joined, .bool x.readable, .bool x.guests]
def zSm : Sm := ⟨⟨#[]⟩, ⟨#[]⟩, ⟨#[]⟩, ⟨#[]⟩, ⟨#[]⟩, ⟨#[]⟩, ⟨#[]⟩, 0, false, false⟩
def cmpB (a b : ByteArray) : Int := if Op.bytesLess a.toList b.toList then -1 else if a.toList == b.toList then 0 else 1
def cmpI (a b : Int) : Int := if a < b then -1 else if a = b then 0 else 1
def orI (a b : Int) : Int := if a = 0 then b else a
/-- By how many are joined, then by names. -/
def aheadC (a b : Sm) : Int := orI (cmpI b.joined a.joined) (cmpB a.room b.room)
def aheadB (a b : Sm) : Bool := decide (b.joined < a.joined) || (decide (b.joined = a.joined) && Op.bytesLess a.room.toList b.room.toList)
theorem aheadC_lt (a b : Sm) : decide (aheadC a b < 0) = aheadB a b := by
  unfold aheadC aheadB orI cmpI cmpB
  by_cases h1 : b.joined < a.joined
  · simp [h1]
  · by_cases h2 : b.joined = a.joined
    · simp only [h2, Int.lt_irrefl, if_false, if_true, decide_true, decide_false, Bool.false_or, Bool.true_and]
      cases h3 : Op.bytesLess a.room.toList b.room.toList with
      | true => simp
      | false => cases h4 : (a.room.toList == b.room.toList) <;> simp
    · simp [h1, h2]
theorem aheadC_eq (a b : Sm) : (aheadC a b = 0) ↔ (a.joined = b.joined ∧ a.room = b.room) := by
  unfold aheadC orI cmpI cmpB
  by_cases h1 : b.joined < a.joined
  · simp [h1]; omega
  · by_cases h2 : b.joined = a.joined
    · simp only [h2, Int.lt_irrefl, if_false, if_true, true_and]
      constructor
      · intro h
        cases h3 : Op.bytesLess a.room.toList b.room.toList with
        | true => rw [h3] at h; simp at h
        | false =>
          cases h4 : (a.room.toList == b.room.toList) with
          | true => exact bytes_inj (by simpa using h4)
          | false => rw [h3, h4] at h; simp at h
      · intro h
        rw [h, less_irr]
        simp
    · simp [h1, h2]; omega
theorem ahead_irr (a : Sm) : aheadB a a = false := by unfold aheadB; rw [less_irr]; simp
theorem ahead_trans {a b c : Sm} (h1 : aheadB a b = true) (h2 : aheadB b c = true) : aheadB a c = true := by
  unfold aheadB at *
  simp only [Bool.or_eq_true, Bool.and_eq_true, decide_eq_true_eq] at *
  rcases h1 with h1 | ⟨h1, h3⟩ <;> rcases h2 with h2 | ⟨h2, h4⟩
  · left; omega
  · left; omega
  · left; omega
  · right; exact ⟨by omega, less_trans h3 h4⟩
theorem ahead_nsym {a b : Sm} (h : aheadB a b = true) : aheadB b a = false := by
  cases h2 : aheadB b a with
  | false => rfl
  | true => have := ahead_trans h h2; rw [ahead_irr] at this; cases this
/-- Neither is ahead: both are joined by as many, and of one name. -/
theorem ahead_same {a b : Sm} (h1 : aheadB a b = false) (h2 : aheadB b a = false) : a.joined = b.joined ∧ a.room = b.room := by
  unfold aheadB at *
  simp only [Bool.or_eq_false_iff, Bool.and_eq_false_iff, decide_eq_false_iff_not] at *
  have hj : a.joined = b.joined := by omega
  refine ⟨hj, less_anti ?_ ?_⟩
  · rcases h1.2 with h | h
    · exact absurd hj.symm h
    · exact h
  · rcases h2.2 with h | h
    · exact absurd hj h
    · exact h
/-- 'Not ahead' goes on, too. -/
theorem ahead_ntrans {a b c : Sm} (h1 : aheadB a b = false) (h2 : aheadB b c = false) : aheadB a c = false := by
  cases h : aheadB a c with
  | false => rfl
  | true =>
    cases h3 : aheadB b a with
    | true => rw [ahead_trans h3 h] at h2; cases h2
    | false =>
      cases h4 : aheadB c b with
      | true => rw [ahead_trans h h4] at h1; cases h1
      | false =>
        obtain ⟨e1, e2⟩ := ahead_same h1 h3
        obtain ⟨e3, e4⟩ := ahead_same h2 h4
        unfold aheadB at h
        rw [e1, e2, e3, e4, less_irr] at h
        simp at h
/-- In order: nobody is ahead of who stands before. -/
def SortS (l : List Sm) : Prop := l.Pairwise fun a b => aheadB b a = false
def posS (x : Sm) (l : List Sm) : Nat := (l.takeWhile fun e => aheadB e x).length
def insS_ (i : Nat) (x : Sm) (l : List Sm) : List Sm := l.take i ++ x :: l.drop i
theorem pos_le (x : Sm) (l : List Sm) : posS x l ≤ l.length := by
  unfold posS
  have := (List.takeWhile_sublist (fun e => aheadB e x) (l := l)).length_le
  exact this
/-- In a sorted list all that are ahead stand before the place, and nobody behind it. -/
theorem pos_split {x : Sm} {l : List Sm} (hs : SortS l) : (∀ i (hi : i < l.length), i < posS x l → aheadB l[i] x = true) ∧ (∀ i (hi : i < l.length), posS x l ≤ i → aheadB l[i] x = false) := by
  induction l with
  | nil => exact ⟨fun i hi => by simp at hi, fun i hi => by simp at hi⟩
  | cons y l ih =>
    obtain ⟨h1, h2⟩ := List.pairwise_cons.1 hs
    have ih := ih h2
    unfold posS at ih ⊢
    cases hy : aheadB y x with
    | true =>
      rw [List.takeWhile_cons, if_pos hy]
      refine ⟨fun i hi hp => ?_, fun i hi hp => ?_⟩
      · cases i with
        | zero => exact hy
        | succ i => exact ih.1 i (by simpa using hi) (by simpa using hp)
      · cases i with
        | zero => simp at hp
        | succ i => exact ih.2 i (by simpa using hi) (by simpa using hp)
    | false =>
      rw [List.takeWhile_cons, if_neg (by rw [hy]; simp)]
      refine ⟨fun i hi hp => by simp at hp, fun i hi hp => ?_⟩
      cases i with
      | zero => exact hy
      | succ i => exact ahead_ntrans (h1 _ (List.getElem_mem _)) hy
theorem ins_perm (i : Nat) (x : Sm) (l : List Sm) : (insS_ i x l).Perm (x :: l) := by
  unfold insS_
  have := (List.perm_middle (a := x) (l₁ := l.take i) (l₂ := l.drop i))
  rwa [List.take_append_drop] at this
theorem ins_sorted {x : Sm} {l : List Sm} (hs : SortS l) : SortS (insS_ (posS x l) x l) := by
  obtain ⟨h1, h2⟩ := pos_split (x := x) hs
  have hle := pos_le x l
  unfold insS_ SortS
  rw [List.pairwise_append]
  have hd : ∀ y ∈ l.drop (posS x l), aheadB y x = false := by
    intro y hy
    obtain ⟨i, hi⟩ := List.mem_iff_getElem?.1 hy
    rw [List.getElem?_drop] at hi
    obtain ⟨hlt, rfl⟩ := List.getElem?_eq_some_iff.1 hi
    exact h2 _ hlt (by omega)
  have ht : ∀ y ∈ l.take (posS x l), aheadB y x = true := by
    intro y hy
    obtain ⟨i, hi⟩ := List.mem_iff_getElem?.1 hy
    rw [List.getElem?_take] at hi
    split at hi
    · next hlt =>
      obtain ⟨hl, rfl⟩ := List.getElem?_eq_some_iff.1 hi
      exact h1 _ hl hlt
    · cases hi
  refine ⟨hs.sublist (List.take_sublist _ _), List.pairwise_cons.2 ⟨hd, hs.sublist (List.drop_sublist _ _)⟩, fun a ha b hb => ?_⟩
  rcases List.mem_cons.1 hb with rfl | hb
  · exact ahead_nsym (ht a ha)
  · have hab := List.pairwise_append.1 (by rw [List.take_append_drop]; exact hs : (l.take (posS x l) ++ l.drop (posS x l)).Pairwise fun a b => aheadB b a = false)
    exact hab.2.2 a ha b hb
/-- Two sorted lists of the same rooms, each of another name, are one. -/
theorem sort_unique {l1 l2 : List Sm} (h1 : SortS l1) (h2 : SortS l2) (hp : l1.Perm l2) (hn : (l1.map (·.room)).Nodup) : l1 = l2 := by
  refine List.Perm.eq_of_pairwise (le := fun a b : Sm => aheadB b a = false) (fun a b ha hb ha1 hb1 => ?_) h1 h2 hp
  have hr := (ahead_same hb1 ha1).2
  have hb' : b ∈ l1 := hp.mem_iff.2 hb
  clear h1 h2 hp hb ha1 hb1
  induction l1 with
  | nil => cases ha
  | cons y l ih =>
    rw [List.map_cons, List.nodup_cons] at hn
    rcases List.mem_cons.1 ha with rfl | ha2
    · rcases List.mem_cons.1 hb' with rfl | hb2
      · rfl
      · exact absurd (List.mem_map.2 ⟨b, hb2, hr.symm⟩) hn.1
    · rcases List.mem_cons.1 hb' with rfl | hb2
      · exact absurd (List.mem_map.2 ⟨a, ha2, hr⟩) hn.1
      · exact ih hn.2 ha2 hb2
end Go.Proofs.Ytmhhoaaoofopfaa
