/- PowerDefaults, the plain side, going on: what is read of a content that tells some numbers. -/
import Derived.Test.YtiehdfokcnphdaaDp
namespace Go.Proofs.Ytiehdfokcnphdaa
open Go.RowKit

theorem toldM_find (told : Nat → Bool) (n : Int) (key : ByteArray) : (toldM told n 7).find? (fun kv => kv.1.toList == key.toList) = (((List.range 7).filter told).find? (fun j => (keys7.getD j ⟨#[]⟩).toList == key.toList)).map (fun j => (keys7.getD j ⟨#[]⟩, vInt n)) := by
  unfold toldM
  rw [List.find?_map]
  rfl
def vTold (M : List (ByteArray × V)) : V := .mk 5 false 0 ⟨#[]⟩ [] M
theorem told_get (told : Nat → Bool) (n : Int) {M : List (ByteArray × V)} (hp : M.Perm (toldM told n 7)) (i : Nat) (hi : i < 7) : (vTold M).get (keys7.getD i ⟨#[]⟩) = if told i then some (vInt n) else none := by
  show (if (5 : Int) = 5 then (M.find? (fun kv => kv.1.toList == (keys7.getD i ⟨#[]⟩).toList)).map (·.2) else none) = _
  rw [if_pos rfl, find_perm hp (toldM_nodup told n), toldM_find]
  by_cases h : told i = true
  · rw [if_pos h]
    have : ((List.range 7).filter told).find? (fun j => (keys7.getD j ⟨#[]⟩).toList == (keys7.getD i ⟨#[]⟩).toList) = some i := by
      cases hf : ((List.range 7).filter told).find? (fun j => (keys7.getD j ⟨#[]⟩).toList == (keys7.getD i ⟨#[]⟩).toList) with
      | none =>
        rw [List.find?_eq_none] at hf
        exact absurd (by simp) (hf i (List.mem_filter.2 ⟨List.mem_range.2 hi, h⟩))
      | some j =>
        have hj := List.find?_some hf
        have hm := List.mem_filter.1 (List.mem_of_find?_eq_some hf)
        rw [keys7_inj j i (List.mem_range.1 hm.1) hi (by simpa using hj)]
    rw [this]
    rfl
  · rw [if_neg h]
    have : ((List.range 7).filter told).find? (fun j => (keys7.getD j ⟨#[]⟩).toList == (keys7.getD i ⟨#[]⟩).toList) = none := by
      rw [List.find?_eq_none]
      intro j hj hh
      have hm := List.mem_filter.1 hj
      have := keys7_inj j i (List.mem_range.1 hm.1) hi (by simpa using hh)
      subst this
      exact h hm.2
    rw [this]
    rfl
theorem told_other (told : Nat → Bool) (n : Int) {M : List (ByteArray × V)} (hp : M.Perm (toldM told n 7)) (key : ByteArray) (hk : ((List.range 7).all fun j => !((keys7.getD j ⟨#[]⟩).toList == key.toList)) = true) : (vTold M).get key = none := by
  show (if (5 : Int) = 5 then (M.find? (fun kv => kv.1.toList == key.toList)).map (·.2) else none) = _
  rw [if_pos rfl, find_perm hp (toldM_nodup told n), toldM_find]
  have : ((List.range 7).filter told).find? (fun j => (keys7.getD j ⟨#[]⟩).toList == key.toList) = none := by
    rw [List.find?_eq_none]
    intro j hj hh
    have := List.all_eq_true.1 hk j (List.mem_filter.1 hj).1
    rw [hh] at this
    cases this
  rw [this]
  rfl
theorem told_events (told : Nat → Bool) (n : Int) {M : List (ByteArray × V)} (hp : M.Perm (toldM told n 7)) : (vTold M).get kEvents = none := told_other told n hp kEvents (by kernel_rfl)
theorem told_users (told : Nat → Bool) (n : Int) {M : List (ByteArray × V)} (hp : M.Perm (toldM told n 7)) : UsersAre (vTold M) [] := .inl ⟨told_other told n hp kUsers (by kernel_rfl), rfl⟩
theorem told_kind (told : Nat → Bool) (n : Int) {M : List (ByteArray × V)} (hp : M.Perm (toldM told n 7)) (key : ByteArray) (u : V) (h : (vTold M).get key = some u) : u.kindOf = 2 := by
  have h2 : (if (5 : Int) = 5 then (M.find? (fun kv => kv.1.toList == key.toList)).map (·.2) else none) = some u := h
  rw [if_pos rfl] at h2
  obtain ⟨kv, hf, rfl⟩ := Option.map_eq_some_iff.1 h2
  have hm := hp.mem_iff.1 (List.mem_of_find?_eq_some hf)
  unfold toldM at hm
  obtain ⟨j, _, rfl⟩ := List.mem_map.1 hm
  rfl
theorem told_num (told : Nat → Bool) (n : Int) {M : List (ByteArray × V)} (hp : M.Perm (toldM told n 7)) (i : Nat) (hi : i < 7) (d : Int) : numOf (vTold M) (keys7.getD i ⟨#[]⟩) d = if told i then n else d := by
  unfold numOf
  rw [told_get told n hp i hi]
  by_cases h : told i = true
  · rw [if_pos h, if_pos h]; rfl
  · rw [if_neg h, if_neg h]
theorem told_lv (told : Nat → Bool) (n : Int) {M : List (ByteArray × V)} (hp : M.Perm (toldM told n 7)) (s : Sl) :
    lvAt (vTold M) 9 s = ⟨if told 0 then n else 50, if told 1 then n else 50, if told 2 then n else 50, if told 3 then n else 0, if told 4 then n else 50, if told 5 then n else 0, if told 6 then n else 0, ⟨none, 0, 0⟩, s⟩ := by
  have h0 := told_num told n hp 0 (by omega) 50
  have h1 := told_num told n hp 1 (by omega) 50
  have h2 := told_num told n hp 2 (by omega) 50
  have h3 := told_num told n hp 3 (by omega) 0
  have h4 := told_num told n hp 4 (by omega) 50
  have h5 := told_num told n hp 5 (by omega) 0
  have h6 := told_num told n hp 6 (by omega) 0
  simp only [keys7, List.getD_cons_zero, List.getD_cons_succ] at h0 h1 h2 h3 h4 h5 h6
  simp [lvAt, h0, h1, h2, h3, h4, h5, h6]
end Go.Proofs.Ytiehdfokcnphdaa
