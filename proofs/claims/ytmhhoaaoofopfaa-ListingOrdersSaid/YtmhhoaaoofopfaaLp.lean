/- What a listing holds behind rooms that are told once each. Plain law, no walk. -/
import Derived.Test.YtmhhoaaoofopfaaLw
set_option linter.unusedVariables false
namespace Go.Proofs.Ytmhhoaaoofopfaa
open Go.RowKit

def sameR (a b : ByteArray) : Bool := a.data.toList == b.data.toList
def findR (l : List Sm) (r : ByteArray) : Option Sm := l.find? fun x => sameR x.room r
def validS (x : Sm) : Bool := isB 1 x.room.data.toList
def KnOk (kn : List (ByteArray × Value)) (l : List Sm) : Prop := ∀ r, getS kn r = (findR l r).map fun x => .agg x.cells
def ShOk (sh : List (ByteArray × Value)) (l : List Sm) : Prop := ∀ r, getS sh r = if (findR (l.filter validS) r).isSome then some (.int .i64 1) else none
def OdOk (od : List Sm) (l : List Sm) : Prop := od.Perm (l.filter validS)
theorem sameR_iff {a b : ByteArray} : sameR a b = true ↔ a = b := by
  unfold sameR
  constructor
  · intro h
    exact bytes_inj (by rw [ByteArray.toList_eq, ByteArray.toList_eq]; simpa using h)
  · rintro rfl
    simp
theorem findR_none {l : List Sm} {r : ByteArray} : findR l r = none ↔ ∀ x ∈ l, x.room ≠ r := by
  unfold findR
  rw [List.find?_eq_none]
  constructor
  · intro h x hx e
    exact h x hx (sameR_iff.2 e)
  · intro h x hx e
    exact h x hx (sameR_iff.1 e)
theorem findR_snoc (l : List Sm) (x : Sm) (r : ByteArray) : findR (l ++ [x]) r = (findR l r).or (if sameR x.room r then some x else none) := by
  unfold findR
  rw [List.find?_append, List.find?_cons]
  cases sameR x.room r <;> rfl
theorem kn_step {kn : List (ByteArray × Value)} {l : List Sm} (h : KnOk kn l) {x : Sm} (hx : ∀ y ∈ l, y.room ≠ x.room) : KnOk (putS x.room (.agg x.cells) kn) (l ++ [x]) := by
  intro r
  rw [getS_put, findR_snoc]
  cases hs : (x.room.data.toList == r.data.toList) with
  | true =>
    have hr : x.room = r := sameR_iff.1 hs
    subst hr
    rw [if_pos rfl, findR_none.2 hx, show sameR x.room x.room = true from hs]
    rfl
  | false =>
    rw [if_neg (by simp), h r, show sameR x.room r = false from hs]
    cases findR l r <;> rfl
theorem sh_valid {sh : List (ByteArray × Value)} {l : List Sm} (h : ShOk sh l) {x : Sm} (hv : validS x = true) : ShOk (putS x.room (.int .i64 1) sh) (l ++ [x]) := by
  intro r
  rw [getS_put, List.filter_append, List.filter_cons, if_pos hv, List.filter_nil, findR_snoc]
  cases hs : (x.room.data.toList == r.data.toList) with
  | true =>
    rw [if_pos rfl, show sameR x.room r = true from hs, if_pos rfl]
    cases findR (l.filter validS) r <;> rfl
  | false =>
    rw [if_neg (by simp), h r, show sameR x.room r = false from hs]
    cases findR (l.filter validS) r <;> rfl
theorem sh_bad {sh : List (ByteArray × Value)} {l : List Sm} (h : ShOk sh l) {x : Sm} (hv : validS x = false) : ShOk sh (l ++ [x]) := by
  intro r
  have e : (l ++ [x]).filter validS = l.filter validS := by simp [List.filter_append, hv]
  rw [e]
  exact h r
theorem od_valid {od l : List Sm} (h : OdOk od l) {x : Sm} (hv : validS x = true) : OdOk (insS_ (posS x od) x od) (l ++ [x]) := by
  unfold OdOk at *
  rw [List.filter_append, List.filter_cons, if_pos hv, List.filter_nil]
  exact (ins_perm _ x od).trans ((h.cons x).trans (List.perm_append_singleton x _).symm)
theorem od_bad {od l : List Sm} (h : OdOk od l) {x : Sm} (hv : validS x = false) : OdOk od (l ++ [x]) := by
  unfold OdOk at *
  rw [List.filter_append, List.filter_cons, if_neg (by rw [hv]; simp), List.filter_nil, List.append_nil]
  exact h
/-- What isn't there isn't shown. -/
theorem sh_none {sh : List (ByteArray × Value)} {l : List Sm} (h : ShOk sh l) {r : ByteArray} (hr : ∀ y ∈ l, y.room ≠ r) : getS sh r = none := by
  rw [h r, findR_none.2 (fun x hx => hr x (List.mem_filter.1 hx).1)]
  rfl
theorem kn_none {kn : List (ByteArray × Value)} {l : List Sm} (h : KnOk kn l) {r : ByteArray} (hr : ∀ y ∈ l, y.room ≠ r) : getS kn r = none := by
  rw [h r, findR_none.2 hr]
  rfl
theorem od_rooms {od l : List Sm} (h : OdOk od l) (hn : (l.map (·.room)).Nodup) : (od.map (·.room)).Nodup := by
  refine (h.map (·.room)).nodup_iff.2 ?_
  exact List.Nodup.sublist (List.Sublist.map _ List.filter_sublist) hn
/-- Both orders are one. -/
theorem od_same {o1 o2 l1 l2 : List Sm} (h1 : OdOk o1 l1) (h2 : OdOk o2 l2) (hp : l1.Perm l2) (hn : (l1.map (·.room)).Nodup) (s1 : SortS o1) (s2 : SortS o2) : o1 = o2 :=
  sort_unique s1 s2 (h1.trans ((hp.filter _).trans h2.symm)) (od_rooms h1 hn)
/-- One behind another, of another name. -/
theorem od_next {od : List Sm} (hs : SortS od) (hn : (od.map (·.room)).Nodup) {i : Nat} {p q : Sm} (hp : od[i]? = some p) (hq : od[i + 1]? = some q) : ¬ p.joined < q.joined ∧ (p.joined = q.joined → Op.bytesLess p.room.toList q.room.toList = true) := by
  obtain ⟨h1, rfl⟩ := List.getElem?_eq_some_iff.1 hp
  obtain ⟨h2, rfl⟩ := List.getElem?_eq_some_iff.1 hq
  have ha := List.pairwise_iff_getElem.1 hs i (i + 1) h1 h2 (by omega)
  have hne : od[i].room ≠ od[i + 1].room := by
    have := List.pairwise_iff_getElem.1 hn i (i + 1) (by simpa using h1) (by simpa using h2) (by omega)
    simpa using this
  unfold aheadB at ha
  simp only [Bool.or_eq_false_iff, decide_eq_false_iff_not, Bool.and_eq_false_iff] at ha
  refine ⟨ha.1, fun hj => ?_⟩
  have hl : Op.bytesLess od[i + 1].room.toList od[i].room.toList = false := by
    rcases ha.2 with h | h
    · exact absurd hj h
    · exact h
  refine less_total hl ?_
  rw [beq_eq_false_iff_ne]
  intro e
  exact hne (bytes_inj e).symm
end Go.Proofs.Ytmhhoaaoofopfaa
