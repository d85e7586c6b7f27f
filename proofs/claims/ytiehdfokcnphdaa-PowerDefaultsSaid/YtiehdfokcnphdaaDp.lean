/- PowerDefaults, the plain side: what is told, whatever its order. -/
import Derived.Test.YtiehdfokcnphdaaAw
namespace Go.Proofs.Ytiehdfokcnphdaa
open Go.RowKit

def keys7 : List ByteArray := [kBan, kKick, kRedact, kInvite, kState, kEvent, kUser]
def vInt (n : Int) : V := .mk 2 false n ⟨#[]⟩ [] []
/-- What is told of the first i keys. -/
def toldM (told : Nat → Bool) (n : Int) (i : Nat) : List (ByteArray × V) := ((List.range i).filter told).map fun j => (keys7.getD j ⟨#[]⟩, vInt n)
theorem toldM_succ (told : Nat → Bool) (n : Int) (i : Nat) : toldM told n (i + 1) = toldM told n i ++ (if told i then [(keys7.getD i ⟨#[]⟩, vInt n)] else []) := by
  unfold toldM
  rw [List.range_succ, List.filter_append, List.map_append]
  by_cases h : told i = true
  · simp [h]
  · simp [h]
theorem keys7_inj : ∀ i j, i < 7 → j < 7 → (keys7.getD i ⟨#[]⟩).toList = (keys7.getD j ⟨#[]⟩).toList → i = j := by
  have h : ((List.range 7).all fun i => (List.range 7).all fun j => decide ((keys7.getD i ⟨#[]⟩).toList = (keys7.getD j ⟨#[]⟩).toList) == decide (i = j)) = true := by kernel_rfl
  intro i j hi hj he
  have h1 := List.all_eq_true.1 (List.all_eq_true.1 h i (List.mem_range.2 hi)) j (List.mem_range.2 hj)
  simp at h1
  exact h1.1 he
theorem toldM_nodup (told : Nat → Bool) (n : Int) : ((toldM told n 7).map (·.1)).Nodup := by
  unfold toldM
  rw [List.map_map]
  have hnd : ((List.range 7).filter told).Nodup := List.nodup_range.sublist List.filter_sublist
  rw [List.nodup_iff_pairwise_ne] at hnd ⊢
  rw [List.pairwise_map]
  refine List.Pairwise.imp_of_mem ?_ hnd
  intro a b ha hb hab e
  have ha7 := List.mem_range.1 (List.mem_filter.1 ha).1
  have hb7 := List.mem_range.1 (List.mem_filter.1 hb).1
  exact hab (keys7_inj a b ha7 hb7 (congrArg ByteArray.toList e))
theorem toldM_length (told : Nat → Bool) (n : Int) (i : Nat) : (toldM told n i).length ≤ i := by
  unfold toldM
  simp only [List.length_map]
  have := List.length_filter_le told (List.range i)
  simpa using this
/-- Finding by a key does not hang on the order, where keys are unlike. -/
theorem find_perm {M M' : List (ByteArray × V)} (hp : M'.Perm M) (hnd : (M.map (·.1)).Nodup) (key : ByteArray) : M'.find? (fun kv => kv.1.toList == key.toList) = M.find? (fun kv => kv.1.toList == key.toList) := by
  cases h : M.find? (fun kv => kv.1.toList == key.toList) with
  | none =>
    rw [List.find?_eq_none] at h ⊢
    intro x hx
    exact h x (hp.mem_iff.1 hx)
  | some x =>
    have hx := List.mem_of_find?_eq_some h
    have hxk := List.find?_some h
    cases h' : M'.find? (fun kv => kv.1.toList == key.toList) with
    | none =>
      rw [List.find?_eq_none] at h'
      exact absurd hxk (h' x (hp.mem_iff.2 hx))
    | some y =>
      have hy := hp.mem_iff.1 (List.mem_of_find?_eq_some h')
      have hyk := List.find?_some h'
      congr 1
      obtain ⟨i, hi⟩ := List.mem_iff_getElem?.1 hx
      obtain ⟨j, hj⟩ := List.mem_iff_getElem?.1 hy
      by_cases hij : i = j
      · subst hij; rw [hi] at hj; exact (Option.some.inj hj).symm
      · exfalso
        have h1 : (M.map (·.1))[i]? = some x.1 := by simp [hi]
        have h2 : (M.map (·.1))[j]? = some y.1 := by simp [hj]
        have e : x.1 = y.1 := bytes_inj ((by simpa using hxk : x.1.toList = key.toList).trans (by simpa using hyk : y.1.toList = key.toList).symm)
        rw [← e] at h2
        obtain ⟨k1, q1⟩ := List.getElem?_eq_some_iff.1 h1
        obtain ⟨k2, q2⟩ := List.getElem?_eq_some_iff.1 h2
        exact hij ((List.getElem_inj hnd).1 (q1.trans q2.symm))
end Go.Proofs.Ytiehdfokcnphdaa
