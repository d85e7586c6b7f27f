/- Maps from texts to whatever, as lists by keys rising. No program is named. -/
import Derived.Test.YtmhhoaaoofopfaaG
import Derived.Maps.OwnSet
import Derived.Maps.OwnOps
import Derived.StringKeys
import Derived.Maps.RangeWalk
namespace Go.Proofs.Ytmhhoaaoofopfaa
open Go.RowKit

/-- How an entry's value reads: as itself. -/
def hR : Value → Option (DataW Value × List MemPlace) := fun v => some (.held v, [])
def lk (k : ByteArray) : Lit := .string k.data.toList
def MD (l : List (ByteArray × Value)) : DataW Value := .map (l.map fun e => (lk e.1, .held e.2))
/-- Block b is a map from texts: its entries, by keys rising. -/
def MapS (w : World) (P : Program) (kt : TypeId) (b : Nat) (l : List (ByteArray × Value)) : Prop := w.ownsMap P kt hR b l.length (MD l)
def keyIs (k : ByteArray) (e : ByteArray × Value) : Bool := e.1.data.toList == k.data.toList
def getS (l : List (ByteArray × Value)) (k : ByteArray) : Option Value := (l.find? (keyIs k)).map (·.2)
def delS (k : ByteArray) (l : List (ByteArray × Value)) : List (ByteArray × Value) := l.filter fun e => !keyIs k e
def insS (x : ByteArray × Value) : List (ByteArray × Value) → List (ByteArray × Value)
  | [] => [x]
  | y :: r => if bytesBefore x.1.data.toList y.1.data.toList then x :: y :: r else y :: insS x r
def putS (k : ByteArray) (v : Value) (l : List (ByteArray × Value)) : List (ByteArray × Value) := insS (k, v) (delS k l)

theorem lk_key (k : ByteArray) : WideAt.IsKeyLit (lk k) := by first | exact trivial | (unfold lk; simp [WideAt.IsKeyLit]) | exact .string _
theorem lk_same (a b : ByteArray) : (lk a).sameKey (lk b) = (a.data.toList == b.data.toList) := rfl
theorem MD_atKey (l : List (ByteArray × Value)) (k : ByteArray) (z : Value) : (MD l).atKey (lk k) (.held z) = .held ((getS l k).getD z) := by
  unfold MD DataW.atKey getS
  simp only [List.find?_map]
  have : ((fun p : Lit × DataW Value => p.1.sameKey (lk k)) ∘ fun e : ByteArray × Value => (lk e.1, DataW.held e.2)) = keyIs k := by
    funext e
    rfl
  rw [this]
  cases l.find? (keyIs k) <;> rfl
theorem MD_has (l : List (ByteArray × Value)) (k : ByteArray) : Maps.has (MD l) (lk k) = (getS l k).isSome := by
  unfold MD getS
  rw [Maps.has_eq, List.any_map]
  have : ((fun p : Lit × DataW Value => p.1.sameKey (lk k)) ∘ fun e : ByteArray × Value => (lk e.1, DataW.held e.2)) = keyIs k := by
    funext e
    rfl
  rw [this]
  rw [Option.isSome_map]
  induction l with
  | nil => rfl
  | cons e l ih =>
    rw [List.any_cons, List.find?_cons, ih]
    cases keyIs k e <;> rfl
theorem MD_size (l : List (ByteArray × Value)) : Maps.size (MD l) = l.length := by
  unfold MD
  rw [Maps.size_eq, List.length_map]
theorem MD_del (l : List (ByteArray × Value)) (k : ByteArray) : (MD l).del (lk k) = MD (delS k l) := by
  unfold MD DataW.del delS
  simp only [List.filter_map]
  congr 1
theorem MD_ins (x : ByteArray × Value) : ∀ l : List (ByteArray × Value), DataW.insert (lk x.1, DataW.held x.2) (l.map fun e => (lk e.1, DataW.held e.2)) = (insS x l).map fun e => (lk e.1, DataW.held e.2)
  | [] => rfl
  | y :: r => by
    show (if (lk x.1).before (lk y.1) then _ else _) = _
    have hb : (lk x.1).before (lk y.1) = bytesBefore x.1.data.toList y.1.data.toList := rfl
    rw [hb]
    unfold insS
    by_cases h : bytesBefore x.1.data.toList y.1.data.toList = true
    · rw [if_pos h, if_pos h]; rfl
    · rw [if_neg h, if_neg h, MD_ins x r]; rfl
theorem MD_put (l : List (ByteArray × Value)) (k : ByteArray) (v : Value) : (MD l).put (lk k) (.held v) = MD (putS k v l) := by
  have h := MD_del l k
  unfold MD DataW.del at h
  unfold MD DataW.put putS
  injection h with h
  show DataW.map (DataW.insert (lk k, DataW.held v) (List.filter (fun p => !p.fst.sameKey (lk k)) (l.map fun e => (lk e.1, DataW.held e.2)))) = _
  rw [h]
  congr 1
  exact MD_ins (k, v) _
theorem tight {w : World} {P : Program} {kt : TypeId} {b n : Nat} {D : DataW Value} (h : w.ownsMap P kt hR b n D) : w.ownsMap P kt hR b (Maps.size D) D := by
  obtain ⟨es, clock, hb, F, _, rfl⟩ := h
  refine ⟨es, clock, hb, F, ?_, rfl⟩
  simp [Maps.size, length_sorted]
theorem MapS.of {w : World} {P : Program} {kt : TypeId} {b n : Nat} {l : List (ByteArray × Value)} (h : w.ownsMap P kt hR b n (MD l)) : MapS w P kt b l := by
  have := tight h
  rw [MD_size] at this
  exact this
theorem MapS.made (w : World) (P : Program) (kt : TypeId) : MapS (w.alloc (.map #[] 0)) P kt w.heap.size [] := World.ownsMap_made w P kt hR
theorem MapS.lt {w : World} {P : Program} {kt : TypeId} {b : Nat} {l : List (ByteArray × Value)} (h : MapS w P kt b l) : b < w.heap.size := World.ownsMap.lt h
theorem MapS.same {w w' : World} {P : Program} {kt : TypeId} {b : Nat} {l : List (ByteArray × Value)} (h : MapS w P kt b l) (hb : w'.heap[b]? = w.heap[b]?) : MapS w' P kt b l := by
  obtain ⟨es, clock, h1, F, hs, hD⟩ := h
  exact ⟨es, clock, hb.trans h1, F, hs, hD⟩
theorem MapS.below {B : Nat} {w w' : World} {P : Program} {kt : TypeId} {b : Nat} {l : List (ByteArray × Value)} (h : MapS w P kt b l) (hb : Below B w w') (hlt : b < B) : MapS w' P kt b l := h.same (hb.block b hlt)
theorem MapS.fr {S : Nat → Prop} {w w' : World} {P : Program} {kt : TypeId} {b : Nat} {l : List (ByteArray × Value)} (h : MapS w P kt b l) (hf : Fr S w w') (hb : ¬ S b) : MapS w' P kt b l := h.same (hf.block b h.lt hb)
/-- A map's block is written, and nothing else. -/
theorem Fr.of_turned {S : Nat → Prop} {w w' : World} {P : Program} {kt : TypeId} {b n : Nat} {D : DataW Value} (_ : w.ownsMap P kt hR b n D) (h : w.mapTurned w' b) (hS : S b) : Fr S w w' :=
  Fr.of_grown (World.mapTurned.grown h) (fun r e => by cases e; exact hS)
section
variable {P : Program} (w : World) {ops : Array Oper} {rest : List Oper} {o : Oper} {a : Act} {Q : Exit → Act → World → Prop}
/-- v, ok := m[k]. -/
theorem lookupS_ok (hg : o.guard = none) (m x : Operand) (t : TypeId) (hop : o.op = Op.lookup t m x true) (k e : TypeId) (hk : P.underlying k = some .string) (ht : P.underlying t = some (.map k e)) (z : Value) (hz : (zeroValue e).run P w = .ok z w)
    (b : Nat) (l : List (ByteArray × Value)) (hm : a.eval m = .map (some b)) (hown : MapS w P k b l) (key : ByteArray) (hx : a.eval x = .string key) (hsz : key.size ≤ maxLen) (v : Value) (ok : Bool) (hv : (getS l key).getD z = v) (hok : (getS l key).isSome = ok)
    (hK : wpList P ops Q rest (a.put o.dst (.tuple #[v, .bool ok])) w) : wpList P ops Q (o :: rest) a w := by
  refine wpList_lookup_own_ok w hg m x t hop k e (Maps.string_keyed hk) ht hR hz (.held z) [] rfl b l.length (MD l) hm hown (.string key) (lk key) hx (Go.WideMaps.keyOf_string_mk hk hsz) ?_
  intro v' ps hv'
  rw [MD_atKey, hv] at hv'
  rw [MD_has, hok]
  unfold hR at hv'
  injection hv' with h1
  injection h1 with h1 _
  injection h1 with h1
  rw [h1]
  exact hK
/-- m[k]. -/
theorem lookupS (hg : o.guard = none) (m x : Operand) (t : TypeId) (hop : o.op = Op.lookup t m x false) (k e : TypeId) (hk : P.underlying k = some .string) (ht : P.underlying t = some (.map k e)) (z : Value) (hz : (zeroValue e).run P w = .ok z w)
    (b : Nat) (l : List (ByteArray × Value)) (hm : a.eval m = .map (some b)) (hown : MapS w P k b l) (key : ByteArray) (hx : a.eval x = .string key) (hsz : key.size ≤ maxLen) (v : Value) (hv : (getS l key).getD z = v)
    (hK : wpList P ops Q rest (a.put o.dst v) w) : wpList P ops Q (o :: rest) a w := by
  refine wpList_plain hg fun K' hK' => ?_
  obtain ⟨v', ps, hrun, hv'⟩ := World.ownsMap.lookup (H := Value) hown (Maps.string_keyed hk) ht hz (zd := .held z) (zp := []) rfl (key := .string key) (kl := lk key) (Go.WideMaps.keyOf_string_mk hk hsz)
  rw [MD_atKey, hv] at hv'
  unfold hR at hv'
  injection hv' with h1
  injection h1 with h1 _
  injection h1 with h1
  subst h1
  unfold Oper.wp
  simp [execOp, hop, hm, hx, hrun, Result.andThen]
  exact hK' _ _ hK
/-- m[k] = v. -/
theorem updateS (hg : o.guard = none) (m x y : Operand) (t : TypeId) (hop : o.op = Op.mapUpdate t m x y) (k e : TypeId) (hk : P.underlying k = some .string) (ht : P.underlying t = some (.map k e))
    (b : Nat) (l : List (ByteArray × Value)) (hm : a.eval m = .map (some b)) (hown : MapS w P k b l) (hn : l.length < maxLen) (key : ByteArray) (hx : a.eval x = .string key) (hsz : key.size ≤ maxLen) (v : Value) (hy : a.eval y = v)
    (hK : ∀ w', MapS w' P k b (putS key v l) → w.mapTurned w' b → wpList P ops Q rest (a.put o.dst undef) w') : wpList P ops Q (o :: rest) a w := by
  refine wpList_mapUpdate_in w hg m x y t hop k e (Maps.string_keyed hk) ht hR b l.length (MD l) hm hown hn (.string key) v (lk key) hx hy (Go.WideMaps.keyOf_string_mk hk hsz) (.held v) [] rfl ?_
  intro w' h1 h2
  rw [MD_put] at h1
  exact hK w' (MapS.of h1) h2
/-- delete(m, k). -/
theorem deleteS (hg : o.guard = none) (m x : Operand) (t k : TypeId) (hop : o.op = Op.call { callee := Callee.builtin Builtin.delete, args := #[m, x], argTypes := #[t, k] }) (e : TypeId) (hk : P.underlying k = some .string) (ht : P.underlying t = some (.map k e))
    (b : Nat) (l : List (ByteArray × Value)) (hm : a.eval m = .map (some b)) (hown : MapS w P k b l) (key : ByteArray) (hx : a.eval x = .string key) (hsz : key.size ≤ maxLen)
    (hK : ∀ w', MapS w' P k b (delS key l) → w.mapTurned w' b → wpList P ops Q rest (a.put o.dst (.tuple #[])) w') : wpList P ops Q (o :: rest) a w := by
  refine wpList_delete_own w hg m x t k hop e (Maps.string_keyed hk) ht hR b l.length (MD l) hm hown (.string key) (lk key) hx (Go.WideMaps.keyOf_string_mk hk hsz) ?_
  intro w' h1 h2
  rw [MD_del] at h1
  exact hK w' (MapS.of h1) h2
/-- len(m). -/
theorem lenS (hg : o.guard = none) (m : Operand) (t : TypeId) (hop : o.op = Op.call { callee := Callee.builtin Builtin.len, args := #[m], argTypes := #[t] }) (k e : TypeId) (ht : P.underlying t = some (.map k e))
    (b : Nat) (l : List (ByteArray × Value)) (hm : a.eval m = .map (some b)) (hown : MapS w P k b l)
    (hK : wpList P ops Q rest (a.put o.dst (.int .i64 l.length)) w) : wpList P ops Q (o :: rest) a w := by
  refine wpList_len_own w hg m t hop k e ht hR b l.length (MD l) hm hown ?_
  rw [MD_size]
  exact hK
end
end Go.Proofs.Ytmhhoaaoofopfaa
