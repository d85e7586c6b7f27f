/- append of rows that lie somewhere, none or many: at a list of operations, at a step of a region that draws. -/
import Derived.Test.YtmhhoaaoofopfaaSl
import Derived.Deep.AppendLies
import Derived.Deep.RegionHeld3
set_option linter.unusedVariables false
namespace Go.Proofs.Ytmhhoaaoofopfaa
open Go.RowKit

/-- Rows that a slice shows. -/
def Src (w : World) (sz : Nat) (a : Option Addr) (m c : Nat) (l : List (List Value)) : Prop :=
  m = l.length ∧ (∀ x ∈ l, x.length = sz) ∧ (∀ u ∈ l.flatten, u.oneCell' = true) ∧ ((a = none ∧ m = 0 ∧ c = 0) ∨ ∃ ad, a = some ad ∧ ∀ j u, l.flatten[j]? = some u → w.cell? (ad.add j) = some u)
theorem flatten_len {sz : Nat} : ∀ {l : List (List Value)}, (∀ x ∈ l, x.length = sz) → l.flatten.length = l.length * sz
  | [], _ => by simp
  | x :: l, h => by
    rw [List.flatten_cons, List.length_append, flatten_len (fun y hy => h y (by simp [hy])), h x (by simp), List.length_cons, Nat.add_mul]
    omega
theorem flatten_at {sz : Nat} : ∀ {l : List (List Value)}, (∀ x ∈ l, x.length = sz) → ∀ (k d : Nat) (x : List Value), l[k]? = some x → d < sz → l.flatten[k * sz + d]? = x[d]?
  | [], _, k, d, x, h, _ => by simp at h
  | y :: l, hl, k, d, x, h, hd => by
    have hy := hl y (by simp)
    cases k with
    | zero =>
      simp at h
      subst h
      rw [List.flatten_cons, Nat.zero_mul, Nat.zero_add, List.getElem?_append_left (by omega)]
    | succ k =>
      simp at h
      rw [List.flatten_cons, List.getElem?_append_right (by rw [hy, Nat.add_mul]; omega)]
      have := flatten_at (fun z hz => hl z (by simp [hz])) k d x h hd
      rw [← this]
      congr 1
      rw [hy, Nat.add_mul]
      omega
theorem run_append_src {P : Program} (w : World) (t ty : TypeId) (base : Nat) (e : TypeId) (i : TypeInfo) (z : Value) (size bytes : Nat) (ht : P.underlying t = some (.slice e)) (hi : P.info? e = some i) (hz : i.zero = some z)
    (hsize : i.size = size) (hby : i.bytes = bytes) (hzs : z.cells.size = size) (hsz : 0 < size)
    (v : Value) (n : Nat) (xs : List Value) (hown : w.ownsRow base e size v n xs) (a : Option Addr) (m c : Nat) (l : List (List Value)) (hs : Src w size a m c l)
    (h63 : n + m ≤ maxLen) (hbytes : (n + m) * bytes ≤ 140737488355328) (hbase : base ≤ w.heap.size) :
    ∃ a' cap w', (Builtin.append_ #[t, t] ty #[v, .slice a m c]).run P w = .ok (.slice a' (n + m) cap) w' ∧ w'.ownsRow base e size (.slice a' (n + m) cap) (n + m) (xs ++ l.flatten) ∧ w.grownBy w' v.ownBlock ∧
      ((Value.slice a' (n + m) cap).ownBlock = v.ownBlock ∨ (Value.slice a' (n + m) cap).ownBlock = some w.heap.size) := by
  obtain ⟨h1, h2, h3, h4⟩ := hs
  rcases h4 with ⟨rfl, rfl, rfl⟩ | ⟨ad, rfl, h5⟩
  · have hl : l = [] := List.length_eq_zero_iff.1 h1.symm
    subst hl
    have hr := run_append_owned_none (P := P) w base t ty e i size ht hi v n xs hown
    rcases hown.2 with ⟨rfl, rfl⟩ | ⟨g, cap, cur, rfl, _⟩
    · exact ⟨none, 0, w, hr, by simpa using hown, grown_refl w _, .inl rfl⟩
    · exact ⟨some ⟨g, 0, none⟩, cap, w, hr, by simpa using hown, grown_refl w _, .inl rfl⟩
  · obtain ⟨v', w', hr, h6, h7, _, h9⟩ := run_append_own_at (P := P) w base t ty e i z size bytes ht hi hz hsize hby hzs hsz v n xs hown ad m c l.flatten (by rw [flatten_len h2, h1]) h5 h3 h63 hbytes hbase
    rcases h6.2 with ⟨rfl, hn0⟩ | ⟨g, cap, cur, rfl, _⟩
    · have : n + m = 0 := hn0
      exact ⟨none, 0, w', by rw [hr, this], by rw [this] at h6 ⊢; exact h6, h7, by rw [this]; exact h9⟩
    · exact ⟨_, _, w', hr, h6, h7, h9⟩
section
variable {P : Program} (w : World)
theorem wp_append_src {o : Oper} {a : Act} {K : Act → World → Prop} {Q : Exit → Act → World → Prop} (s x : Operand) (t : TypeId)
    (ho : o.op = .call { callee := .builtin .append, args := #[s, x], argTypes := #[t, t] })
    (base : Nat) (e : TypeId) (i : TypeInfo) (z : Value) (size bytes : Nat) (ht : P.underlying t = some (.slice e)) (hi : P.info? e = some i) (hz : i.zero = some z)
    (hsize : i.size = size) (hby : i.bytes = bytes) (hzs : z.cells.size = size) (hsz : 0 < size)
    (v : Value) (n : Nat) (xs : List Value) (hv : a.eval s = v) (hown : w.ownsRow base e size v n xs)
    (b : Option Addr) (m c : Nat) (l : List (List Value)) (hx : a.eval x = .slice b m c) (hs : Src w size b m c l)
    (h63 : n + m ≤ maxLen) (hbytes : (n + m) * bytes ≤ 140737488355328) (hbase : base ≤ w.heap.size)
    (h : ∀ a' cap w', w'.ownsRow base e size (.slice a' (n + m) cap) (n + m) (xs ++ l.flatten) → w.grownBy w' v.ownBlock → ((Value.slice a' (n + m) cap).ownBlock = v.ownBlock ∨ (Value.slice a' (n + m) cap).ownBlock = some w.heap.size) → K (a.put o.dst (.slice a' (n + m) cap)) w') : o.wp P a w K Q := by
  obtain ⟨a', cap, w', hr, h2, h3, h4⟩ := run_append_src (P := P) w t o.type base e i z size bytes ht hi hz hsize hby hzs hsz v n xs hown b m c l hs h63 hbytes hbase
  unfold Oper.wp execOp
  simp only [ho, resolve, invoke, builtin, Sem.run_bind, Sem.run_pure, Result.andThen_ok, List.map_toArray, List.map_cons, List.map_nil, hv, hx, hr]
  exact h a' cap w' h2 h3 h4
theorem wpList_append_src {ops : Array Oper} {rest : List Oper} {o : Oper} {a : Act} {Q : Exit → Act → World → Prop} (hgd : o.guard = none) (s x : Operand) (t : TypeId)
    (ho : o.op = .call { callee := .builtin .append, args := #[s, x], argTypes := #[t, t] })
    (base : Nat) (e : TypeId) (i : TypeInfo) (z : Value) (size bytes : Nat) (ht : P.underlying t = some (.slice e)) (hi : P.info? e = some i) (hz : i.zero = some z)
    (hsize : i.size = size) (hby : i.bytes = bytes) (hzs : z.cells.size = size) (hsz : 0 < size)
    (v : Value) (n : Nat) (xs : List Value) (hv : a.eval s = v) (hown : w.ownsRow base e size v n xs)
    (b : Option Addr) (m c : Nat) (l : List (List Value)) (hx : a.eval x = .slice b m c) (hs : Src w size b m c l)
    (h63 : n + m ≤ maxLen) (hbytes : (n + m) * bytes ≤ 140737488355328) (hbase : base ≤ w.heap.size)
    (h : ∀ a' cap w', w'.ownsRow base e size (.slice a' (n + m) cap) (n + m) (xs ++ l.flatten) → w.grownBy w' v.ownBlock → ((Value.slice a' (n + m) cap).ownBlock = v.ownBlock ∨ (Value.slice a' (n + m) cap).ownBlock = some w.heap.size) → wpList P ops Q rest (a.put o.dst (.slice a' (n + m) cap)) w') : wpList P ops Q (o :: rest) a w :=
  wpList_plain hgd fun _ hK => wp_append_src w s x t ho base e i z size bytes ht hi hz hsize hby hzs hsz v n xs hv hown b m c l hx hs h63 hbytes hbase fun a' cap w' h2 h3 h4 => hK _ _ (h a' cap w' h2 h3 h4)
theorem step_append_src {ops : Array Oper} {o : Oper} {a : Act} {K : Act → World → Prop} {Q : Exit → Act → World → Prop} {E : Prop} (hgd : o.guard = none) (s x : Operand) (t : TypeId)
    (ho : o.op = .call { callee := .builtin .append, args := #[s, x], argTypes := #[t, t] })
    (base : Nat) (e : TypeId) (i : TypeInfo) (z : Value) (size bytes : Nat) (ht : P.underlying t = some (.slice e)) (hi : P.info? e = some i) (hz : i.zero = some z)
    (hsize : i.size = size) (hby : i.bytes = bytes) (hzs : z.cells.size = size) (hsz : 0 < size)
    (v : Value) (n : Nat) (xs : List Value) (hv : a.eval s = v) (hown : w.ownsRow base e size v n xs)
    (b : Option Addr) (m c : Nat) (l : List (List Value)) (hx : a.eval x = .slice b m c) (hs : Src w size b m c l)
    (h63 : n + m ≤ maxLen) (hbytes : (n + m) * bytes ≤ 140737488355328) (hbase : base ≤ w.heap.size)
    (h : ∀ a' cap w', w'.ownsRow base e size (.slice a' (n + m) cap) (n + m) (xs ++ l.flatten) → w.grownBy w' v.ownBlock → ((Value.slice a' (n + m) cap).ownBlock = v.ownBlock ∨ (Value.slice a' (n + m) cap).ownBlock = some w.heap.size) → K (a.put o.dst (.slice a' (n + m) cap)) w') :
    if Region.wanted o (yielded ops a.tmps) = true then Oper.wp P o a w K Q else E := by
  have hw : Region.wanted o (yielded ops a.tmps) = true := by simp [Region.wanted, hgd]
  rw [if_pos hw]
  exact wp_append_src w s x t ho base e i z size bytes ht hi hz hsize hby hzs hsz v n xs hv hown b m c l hx hs h63 hbytes hbase h
end
/-- A row's part. -/
theorem Rw.src {w : World} {E r cap sz : Nat} {l : List (List Value)} (h : Rw w E r cap sz l) (h1 : ∀ x ∈ l, ∀ u ∈ x, u.oneCell' = true) (hsz : 0 < sz) (i m c : Nat) (hi : i + m ≤ l.length) :
    Src w sz (some ⟨r, i * sz, none⟩) m c ((l.drop i).take m) := by
  have hlen : ∀ x ∈ l, x.length = sz := fun x hx => by
    obtain ⟨k, hk⟩ := List.mem_iff_getElem?.1 hx
    obtain ⟨cur, _, _, _, h4⟩ := h
    exact (h4 k x hk).1
  have hlen2 : ∀ x ∈ (l.drop i).take m, x.length = sz := fun x hx => hlen x (List.mem_of_mem_drop (List.mem_of_mem_take hx))
  refine ⟨by rw [List.length_take, List.length_drop]; omega, hlen2, fun u hu => ?_, .inr ⟨_, rfl, fun j u hj => ?_⟩⟩
  · obtain ⟨x, hx, hxu⟩ := List.mem_flatten.1 hu
    exact h1 x (List.mem_of_mem_drop (List.mem_of_mem_take hx)) u hxu
  · have hjl : j < ((l.drop i).take m).flatten.length := (List.getElem?_eq_some_iff.1 hj).1
    rw [flatten_len hlen2, List.length_take, List.length_drop] at hjl
    have hq : j / sz < m := by
      have : j < m * sz := by
        have : min m (l.length - i) = m := by omega
        rw [this] at hjl; exact hjl
      exact Nat.div_lt_of_lt_mul (by rw [Nat.mul_comm]; exact this)
    have hd : j % sz < sz := Nat.mod_lt _ hsz
    have hrow : ((l.drop i).take m)[j / sz]? = l[i + j / sz]? := by
      rw [List.getElem?_take, if_pos hq, List.getElem?_drop]
    obtain ⟨x, hx⟩ : ∃ x, l[i + j / sz]? = some x := ⟨_, List.getElem?_eq_getElem (by omega)⟩
    have hxl := hlen x (List.mem_of_getElem? hx)
    have hjx : ((l.drop i).take m).flatten[j]? = x[j % sz]? := by
      have := flatten_at hlen2 (j / sz) (j % sz) x (hrow.trans hx) hd
      rw [← this]
      congr 1
      rw [Nat.mul_comm]
      exact (Nat.div_add_mod j sz).symm
    rw [hjx] at hj
    have := h.cell (i := i + j / sz) (d := j % sz) hx hj
    have hadd : (⟨r, i * sz, none⟩ : Addr).add j = ⟨r, i * sz + j, none⟩ := by unfold Addr.add; split <;> simp_all
    rw [hadd]
    have he : (i + j / sz) * sz + j % sz = i * sz + j := by
      rw [Nat.add_mul, Nat.add_assoc]
      congr 1
      rw [Nat.mul_comm]
      exact Nat.div_add_mod j sz
    rw [he] at this
    exact this
end Go.Proofs.Ytmhhoaaoofopfaa
