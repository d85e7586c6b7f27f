/- Maps from texts, as lists: what is told behind a put, how many there are. No walk, no program is named. -/
import Derived.Test.YtmhhoaaoofopfaaMp
set_option linter.unusedVariables false
namespace Go.Proofs.Ytmhhoaaoofopfaa
open Go.RowKit Go.Maps

theorem getS_ins (k : ByteArray) (v : Value) (k' : ByteArray) : ∀ m : List (ByteArray × Value), (∀ e ∈ m, keyIs k e = false) → getS (insS (k, v) m) k' = if (k.data.toList == k'.data.toList) = true then some v else getS m k'
  | [], _ => by
    unfold getS insS
    rw [List.find?_cons]
    show (match keyIs k' (k, v) with | true => _ | false => _ : Option _).map _ = _
    have : keyIs k' (k, v) = (k.data.toList == k'.data.toList) := rfl
    rw [this]
    cases (k.data.toList == k'.data.toList) <;> rfl
  | y :: r, h => by
    have hy := h y (by simp)
    have ih := getS_ins k v k' r (fun e he => h e (by simp [he]))
    unfold insS
    split
    · unfold getS
      rw [List.find?_cons]
      have : keyIs k' (k, v) = (k.data.toList == k'.data.toList) := rfl
      rw [this]
      cases (k.data.toList == k'.data.toList) <;> rfl
    · unfold getS at ih ⊢
      rw [List.find?_cons, List.find?_cons]
      cases hk : keyIs k' y with
      | false => exact ih
      | true =>
        have hne : (k.data.toList == k'.data.toList) = false := by
          rw [beq_eq_false_iff_ne]
          intro e
          unfold keyIs at hy hk
          rw [e] at hy
          rw [hy] at hk
          cases hk
        rw [hne]
        rfl
theorem getS_del (k k' : ByteArray) (hne : (k.data.toList == k'.data.toList) = false) : ∀ m : List (ByteArray × Value), getS (delS k m) k' = getS m k'
  | [] => rfl
  | y :: r => by
    have ih := getS_del k k' hne r
    unfold getS delS at ih ⊢
    rw [List.filter_cons, List.find?_cons]
    cases hk : keyIs k y with
    | false =>
      simp only [Bool.not_false, if_true]
      rw [List.find?_cons]
      cases keyIs k' y
      · exact ih
      · rfl
    | true =>
      have h2 : keyIs k' y = false := by
        unfold keyIs at hk ⊢
        rw [beq_eq_false_iff_ne] at hne ⊢
        intro e
        exact hne (by rw [← e]; exact (by simpa using hk : y.1.data.toList = k.data.toList).symm)
      simp only [Bool.not_true, Bool.false_eq_true, if_false, h2]
      exact ih
theorem getS_put (k : ByteArray) (v : Value) (l : List (ByteArray × Value)) (k' : ByteArray) : getS (putS k v l) k' = if (k.data.toList == k'.data.toList) = true then some v else getS l k' := by
  unfold putS
  rw [getS_ins k v k' (delS k l) (fun e he => by
    have := (List.mem_filter.1 he).2
    simpa using this)]
  by_cases h : (k.data.toList == k'.data.toList) = true
  · rw [if_pos h, if_pos h]
  · rw [if_neg h, if_neg h, getS_del k k' (by simpa using h)]
theorem len_ins (x : ByteArray × Value) : ∀ l : List (ByteArray × Value), (insS x l).length = l.length + 1
  | [] => rfl
  | y :: r => by
    unfold insS
    split
    · rfl
    · rw [List.length_cons, len_ins x r, List.length_cons]
theorem len_put (k : ByteArray) (v : Value) (l : List (ByteArray × Value)) : (putS k v l).length ≤ l.length + 1 := by
  unfold putS
  rw [len_ins]
  have : (delS k l).length ≤ l.length := List.length_filter_le _ _
  omega
theorem getS_nil (k : ByteArray) : getS [] k = none := rfl
end Go.Proofs.Ytmhhoaaoofopfaa
