/- PageTokens: the plain side (a map that counts tokens), and the walk. -/
import Derived.Test.YtefacagkjcmeeaaDoorK0
import Derived.Test.YtefacagkjcmeeaaDoorC1
import Derived.Test.YtefacagkjcmeeaaDoorST5
import Derived.Maps.OwnOps
import Derived.Maps.OwnSet
import Derived.Maps.Views
namespace Go.Proofs.YtefacagkjcmeeaaDoor
open Go.RowKit S
open Go.Maps (Keyed)

def keyL (t : ByteArray) : Lit := .string t.data.toList
theorem keyL_inj {a b : ByteArray} (h : keyL a = keyL b) : a = b := by
  unfold keyL at h
  injection h with h
  exact ByteArray.ext (Array.toList_inj.1 h)
abbrev one1 : DataW Unit := .lit (.int .i64 1)
/-- The map behind these tokens, once each. -/
def seenOf (ts : List ByteArray) : DataW Unit := Maps.setOf one1 (ts.map keyL)
theorem isKey (t : ByteArray) : WideAt.IsKeyLit (keyL t) := by first | trivial | (unfold keyL WideAt.IsKeyLit; simp)
theorem isKeys (ts : List ByteArray) : ∀ x ∈ ts.map keyL, WideAt.IsKeyLit x := by
  intro x hx
  obtain ⟨t, _, rfl⟩ := List.mem_map.1 hx
  exact isKey t
theorem seen_tidy (ts : List ByteArray) : Maps.Tidy (seenOf ts) := Maps.tidy_setOf _ _ (isKeys ts)
theorem seen_not {ts : List ByteArray} {t : ByteArray} (h : t ∉ ts) : Maps.has (seenOf ts) (keyL t) = false := by
  unfold seenOf
  rw [Maps.has_setOf _ _ _ (isKeys ts)]
  rw [List.any_eq_false]
  intro x hx
  obtain ⟨s, hs, rfl⟩ := List.mem_map.1 hx
  have hne : keyL s ≠ keyL t := fun e => by
    have := keyL_inj e
    exact h (this ▸ hs)
  rw [Maps.sameKey_ne hne]
  simp
theorem seen_snoc (ts : List ByteArray) (t : ByteArray) : seenOf (ts ++ [t]) = (seenOf ts).put (keyL t) one1 := by
  unfold seenOf
  rw [List.map_append]
  exact Maps.setOf_snoc _ _ _
theorem nodup_take {ts : List ByteArray} (h : ts.Nodup) {k : Nat} (hk : k < ts.length) : ts[k] ∉ ts.take k := by
  intro hm
  obtain ⟨j, hj, he⟩ := List.mem_iff_getElem.1 hm
  rw [List.length_take] at hj
  rw [List.getElem_take] at he
  have := (List.getElem_inj h).1 he
  omega
theorem seen_size (ts : List ByteArray) (h : ts.Nodup) : ∀ k, k ≤ ts.length → Maps.size (seenOf (ts.take k)) = k := by
  intro k
  induction k with
  | zero => intro _; rfl
  | succ k ih =>
    intro hk
    have hg : ts[k]? = some ts[k] := List.getElem?_eq_getElem (by omega)
    rw [List.take_add_one, hg]
    simp only [Option.toList]
    rw [seen_snoc, Maps.size_put (seen_tidy _), seen_not (nodup_take h (by omega)), ih (by omega)]
    simp
theorem zeroInt (w : World) : (zeroValue 3).run Tryd.prog w = .ok (.int .i64 0) w := by kernel_rfl
theorem tok_size {u : Nat} (h : u < 4294967296) : (tokOf u).size ≤ maxLen := by
  have := dec_len u (by omega)
  unfold tokOf maxLen
  simp [ByteArray.size]
  omega

/-- What stands at the outer loop's head. -/
def TRel (w : World) (g : Nat) (n : Nat) (c30 : Value) (wr : World) : Prop :=
  ∃ (i : Nat) (A : Option Addr) (cap : Nat) (ro : Option Nat) (b : BK), i ≤ n ∧ c30 = .int .i64 i ∧ TInv b i ∧ (∀ q ∈ b.l, q.tok.size ≤ maxLen) ∧ Bk wr g A cap ro b ∧ (∀ r, ro = some r → w.heap.size ≤ r) ∧ Below w.heap.size w wr
theorem map_drop_one (b : List Kp) (j : Nat) (q : Kp) (h : b[j]? = some q) : (b.map (·.tok)).take (j + 1) = (b.map (·.tok)).take j ++ [q.tok] := by
  rw [List.take_add_one]
  simp [h]
end Go.Proofs.YtefacagkjcmeeaaDoor
