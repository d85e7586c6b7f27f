/- Maps from texts to whatever, as lists by keys rising. No program is named. -/
import Derived.Test.YtgnoaeldmpbjmaaGreatDoorMM1
import Derived.Maps.OwnSet
import Derived.Maps.OwnOps
import Derived.StringKeys
import Derived.Maps.RangeWalk
import Derived.RangeFuncMany
import Derived.RangeFuncBox
import Derived.RangeFuncNested
import Derived.RangeFuncBound
import Derived.RangeFuncCalls
import Derived.RangeFuncLeaves
import Derived.Sort.MapsRangeIn
import Derived.Sort.KeysCollected
import Derived.WalkKit
import Derived.OwnWalkIn
import Derived.TacticsInMore
import Derived.RegionIn
import Derived.LoopNIn
import Derived.LoopIn
import Derived.Shelf.Abstract
import Derived.Shelf.RegionOpen
import Derived.Maps.AppendAt
import Derived.Shelf.SlSortCmp.WholeK
import Derived.Shelf.SlSortCmp.NoneTotal
import Derived.Sort.LotA
namespace Go.Proofs.YtgnoaeldmpbjmaaGreatDoor
open Go.RowKit

/-- How an entry's value reads: as itself. -/
def hR : Value → Option (DataW Value × List MemPlace) := fun v => some (.held v, [])
def lk (k : ByteArray) : Lit := .string k.data.toList
def MD (l : List (ByteArray × Value)) : DataW Value := .map (l.map fun e => (lk e.1, .held e.2))
/-- Block b is a map from texts: its entries, by keys rising. -/
def MapS (w : World) (P : Program) (kt : TypeId) (b : Nat) (l : List (ByteArray × Value)) : Prop := w.ownsMap P kt hR b l.length (MD l)
def keyIs (k : ByteArray) (e : ByteArray × Value) : Bool := e.1.data.toList == k.data.toList
def getS (l : List (ByteArray × Value)) (k : ByteArray) : Option Value := (l.find? (keyIs k)).map (·.2)
def delS (k : ByteArray) (l : List (ByteArray × Value)) : List (ByteArray × Value) := l.filter fun e => !keyIs k e
def insS (x : ByteArray × Value) : List (ByteArray × Value) → List (ByteArray × Value)
  | [] => [x]
  | y :: r => if bytesBefore x.1.data.toList y.1.data.toList then x :: y :: r else y :: insS x r
def putS (k : ByteArray) (v : Value) (l : List (ByteArray × Value)) : List (ByteArray × Value) := insS (k, v) (delS k l)

theorem lk_key (k : ByteArray) : WideAt.IsKeyLit (lk k) := by first | exact trivial | (unfold lk; simp [WideAt.IsKeyLit]) | exact .string _
theorem lk_same (a b : ByteArray) : (lk a).sameKey (lk b) = (a.data.toList == b.data.toList) := rfl
theorem MD_atKey (l : List (ByteArray × Value)) (k : ByteArray) (z : Value) : (MD l).atKey (lk k) (.held z) = .held ((getS l k).getD z) := by
  unfold MD DataW.atKey getS
  simp only [List.find?_map]
  have : ((fun p : Lit × DataW Value => p.1.sameKey (lk k)) ∘ fun e : ByteArray × Value => (lk e.1, DataW.held e.2)) = keyIs k := by
    funext e
    rfl
  rw [this]
  cases l.find? (keyIs k) <;> rfl
theorem MD_has (l : List (ByteArray × Value)) (k : ByteArray) : Maps.has (MD l) (lk k) = (getS l k).isSome := by
  unfold MD getS
  rw [Maps.has_eq, List.any_map]
  have : ((fun p : Lit × DataW Value => p.1.sameKey (lk k)) ∘ fun e : ByteArray × Value => (lk e.1, DataW.held e.2)) = keyIs k := by
    funext e
    rfl
  rw [this]
  rw [Option.isSome_map]
  induction l with
  | nil => rfl
  | cons e l ih =>
    rw [List.any_cons, List.find?_cons, ih]
    cases keyIs k e <;> rfl
theorem MD_size (l : List (ByteArray × Value)) : Maps.size (MD l) = l.length := by
  unfold MD
  rw [Maps.size_eq, List.length_map]
theorem MD_del (l : List (ByteArray × Value)) (k : ByteArray) : (MD l).del (lk k) = MD (delS k l) := by
  unfold MD DataW.del delS
  simp only [List.filter_map]
  congr 1
theorem MD_ins (x : ByteArray × Value) : ∀ l : List (ByteArray × Value), DataW.insert (lk x.1, DataW.held x.2) (l.map fun e => (lk e.1, DataW.held e.2)) = (insS x l).map fun e => (lk e.1, DataW.held e.2)
  | [] => rfl
  | y :: r => by
    show (if (lk x.1).before (lk y.1) then _ else _) = _
    have hb : (lk x.1).before (lk y.1) = bytesBefore x.1.data.toList y.1.data.toList := rfl
    rw [hb]
    unfold insS
    by_cases h : bytesBefore x.1.data.toList y.1.data.toList = true
    · rw [if_pos h, if_pos h]; rfl
    · rw [if_neg h, if_neg h, MD_ins x r]; rfl
theorem MD_put (l : List (ByteArray × Value)) (k : ByteArray) (v : Value) : (MD l).put (lk k) (.held v) = MD (putS k v l) := by
  have h := MD_del l k
  unfold MD DataW.del at h
  unfold MD DataW.put putS
  injection h with h
  show DataW.map (DataW.insert (lk k, DataW.held v) (List.filter (fun p => !p.fst.sameKey (lk k)) (l.map fun e => (lk e.1, DataW.held e.2)))) = _
  rw [h]
  congr 1
  exact MD_ins (k, v) _
theorem tight {w : World} {P : Program} {kt : TypeId} {b n : Nat} {D : DataW Value} (h : w.ownsMap P kt hR b n D) : w.ownsMap P kt hR b (Maps.size D) D := by
  obtain ⟨es, clock, hb, F, _, rfl⟩ := h
  refine ⟨es, clock, hb, F, ?_, rfl⟩
  simp [Maps.size, length_sorted]
theorem MapS.of {w : World} {P : Program} {kt : TypeId} {b n : Nat} {l : List (ByteArray × Value)} (h : w.ownsMap P kt hR b n (MD l)) : MapS w P kt b l := by
  have := tight h
  rw [MD_size] at this
  exact this
theorem MapS.made (w : World) (P : Program) (kt : TypeId) : MapS (w.alloc (.map #[] 0)) P kt w.heap.size [] := World.ownsMap_made w P kt hR
theorem MapS.lt {w : World} {P : Program} {kt : TypeId} {b : Nat} {l : List (ByteArray × Value)} (h : MapS w P kt b l) : b < w.heap.size := World.ownsMap.lt h
theorem MapS.same {w w' : World} {P : Program} {kt : TypeId} {b : Nat} {l : List (ByteArray × Value)} (h : MapS w P kt b l) (hb : w'.heap[b]? = w.heap[b]?) : MapS w' P kt b l := by
  obtain ⟨es, clock, h1, F, hs, hD⟩ := h
  exact ⟨es, clock, hb.trans h1, F, hs, hD⟩
theorem MapS.below {B : Nat} {w w' : World} {P : Program} {kt : TypeId} {b : Nat} {l : List (ByteArray × Value)} (h : MapS w P kt b l) (hb : Below B w w') (hlt : b < B) : MapS w' P kt b l := h.same (hb.block b hlt)
theorem MapS.fr {S : Nat → Prop} {w w' : World} {P : Program} {kt : TypeId} {b : Nat} {l : List (ByteArray × Value)} (h : MapS w P kt b l) (hf : Fr S w w') (hb : ¬ S b) : MapS w' P kt b l := h.same (hf.block b h.lt hb)
/-- A map's block is written, and nothing else. -/
theorem Fr.of_turned {S : Nat → Prop} {w w' : World} {P : Program} {kt : TypeId} {b n : Nat} {D : DataW Value} (_ : w.ownsMap P kt hR b n D) (h : w.mapTurned w' b) (hS : S b) : Fr S w w' :=
  Fr.of_grown (World.mapTurned.grown h) (fun r e => by cases e; exact hS)
section
variable {P : Program} (w : World) {ops : Array Oper} {rest : List Oper} {o : Oper} {a : Act} {Q : Exit → Act → World → Prop}
/-- v, ok := m[k]. -/
theorem lookupS_ok (hg : o.guard = none) (m x : Operand) (t : TypeId) (hop : o.op = Op.lookup t m x true) (k e : TypeId) (hk : P.underlying k = some .string) (ht : P.underlying t = some (.map k e)) (z : Value) (hz : (zeroValue e).run P w = .ok z w)
    (b : Nat) (l : List (ByteArray × Value)) (hm : a.eval m = .map (some b)) (hown : MapS w P k b l) (key : ByteArray) (hx : a.eval x = .string key) (hsz : key.size ≤ maxLen) (v : Value) (ok : Bool) (hv : (getS l key).getD z = v) (hok : (getS l key).isSome = ok)
    (hK : wpList P ops Q rest (a.put o.dst (.tuple #[v, .bool ok])) w) : wpList P ops Q (o :: rest) a w := by
  refine wpList_lookup_own_ok w hg m x t hop k e (Maps.string_keyed hk) ht hR hz (.held z) [] rfl b l.length (MD l) hm hown (.string key) (lk key) hx (Go.WideMaps.keyOf_string_mk hk hsz) ?_
  intro v' ps hv'
  rw [MD_atKey, hv] at hv'
  rw [MD_has, hok]
  unfold hR at hv'
  injection hv' with h1
  injection h1 with h1 _
  injection h1 with h1
  rw [h1]
  exact hK
/-- m[k]. -/
theorem lookupS (hg : o.guard = none) (m x : Operand) (t : TypeId) (hop : o.op = Op.lookup t m x false) (k e : TypeId) (hk : P.underlying k = some .string) (ht : P.underlying t = some (.map k e)) (z : Value) (hz : (zeroValue e).run P w = .ok z w)
    (b : Nat) (l : List (ByteArray × Value)) (hm : a.eval m = .map (some b)) (hown : MapS w P k b l) (key : ByteArray) (hx : a.eval x = .string key) (hsz : key.size ≤ maxLen) (v : Value) (hv : (getS l key).getD z = v)
    (hK : wpList P ops Q rest (a.put o.dst v) w) : wpList P ops Q (o :: rest) a w := by
  refine wpList_plain hg fun K' hK' => ?_
  obtain ⟨v', ps, hrun, hv'⟩ := World.ownsMap.lookup (H := Value) hown (Maps.string_keyed hk) ht hz (zd := .held z) (zp := []) rfl (key := .string key) (kl := lk key) (Go.WideMaps.keyOf_string_mk hk hsz)
  rw [MD_atKey, hv] at hv'
  unfold hR at hv'
  injection hv' with h1
  injection h1 with h1 _
  injection h1 with h1
  subst h1
  unfold Oper.wp
  simp [execOp, hop, hm, hx, hrun, Result.andThen]
  exact hK' _ _ hK
/-- m[k] = v. -/
theorem updateS (hg : o.guard = none) (m x y : Operand) (t : TypeId) (hop : o.op = Op.mapUpdate t m x y) (k e : TypeId) (hk : P.underlying k = some .string) (ht : P.underlying t = some (.map k e))
    (b : Nat) (l : List (ByteArray × Value)) (hm : a.eval m = .map (some b)) (hown : MapS w P k b l) (hn : l.length < maxLen) (key : ByteArray) (hx : a.eval x = .string key) (hsz : key.size ≤ maxLen) (v : Value) (hy : a.eval y = v)
    (hK : ∀ w', MapS w' P k b (putS key v l) → w.mapTurned w' b → wpList P ops Q rest (a.put o.dst undef) w') : wpList P ops Q (o :: rest) a w := by
  refine wpList_mapUpdate_in w hg m x y t hop k e (Maps.string_keyed hk) ht hR b l.length (MD l) hm hown hn (.string key) v (lk key) hx hy (Go.WideMaps.keyOf_string_mk hk hsz) (.held v) [] rfl ?_
  intro w' h1 h2
  rw [MD_put] at h1
  exact hK w' (MapS.of h1) h2
/-- delete(m, k). -/
theorem deleteS (hg : o.guard = none) (m x : Operand) (t k : TypeId) (hop : o.op = Op.call { callee := Callee.builtin Builtin.delete, args := #[m, x], argTypes := #[t, k] }) (e : TypeId) (hk : P.underlying k = some .string) (ht : P.underlying t = some (.map k e))
    (b : Nat) (l : List (ByteArray × Value)) (hm : a.eval m = .map (some b)) (hown : MapS w P k b l) (key : ByteArray) (hx : a.eval x = .string key) (hsz : key.size ≤ maxLen)
    (hK : ∀ w', MapS w' P k b (delS key l) → w.mapTurned w' b → wpList P ops Q rest (a.put o.dst (.tuple #[])) w') : wpList P ops Q (o :: rest) a w := by
  refine wpList_delete_own w hg m x t k hop e (Maps.string_keyed hk) ht hR b l.length (MD l) hm hown (.string key) (lk key) hx (Go.WideMaps.keyOf_string_mk hk hsz) ?_
  intro w' h1 h2
  rw [MD_del] at h1
  exact hK w' (MapS.of h1) h2
/-- len(m). -/
theorem lenS (hg : o.guard = none) (m : Operand) (t : TypeId) (hop : o.op = Op.call { callee := Callee.builtin Builtin.len, args := #[m], argTypes := #[t] }) (k e : TypeId) (ht : P.underlying t = some (.map k e))
    (b : Nat) (l : List (ByteArray × Value)) (hm : a.eval m = .map (some b)) (hown : MapS w P k b l)
    (hK : wpList P ops Q rest (a.put o.dst (.int .i64 l.length)) w) : wpList P ops Q (o :: rest) a w := by
  refine wpList_len_own w hg m t hop k e ht hR b l.length (MD l) hm hown ?_
  rw [MD_size]
  exact hK
end
end Go.Proofs.YtgnoaeldmpbjmaaGreatDoor
/- alias: a table in memory; what is asked of it. -/
namespace Go.Proofs.YtgnoaeldmpbjmaaGreatDoor
open Go.RowKit

/-- An entry: an alias, its room, who gave it. -/
structure En where
  a : ByteArray
  r : ByteArray
  b : ByteArray
abbrev En.cells (x : En) : Array Value := #[.string x.a, .string x.r, .string x.b]
def enZ : En := ⟨⟨#[]⟩, ⟨#[]⟩, ⟨#[]⟩⟩
def ents (l : List En) : List (ByteArray × Value) := l.map fun x => (x.a, .agg x.cells)
def aliasIs (k : ByteArray) (x : En) : Bool := x.a.data.toList == k.data.toList
def getE (l : List En) (k : ByteArray) : Option En := l.find? (aliasIs k)
theorem ents_get (l : List En) (k : ByteArray) : getS (ents l) k = (getE l k).map fun x => .agg x.cells := by
  unfold getS ents getE
  rw [List.find?_map, Option.map_map]
  rfl
theorem ents_length (l : List En) : (ents l).length = l.length := by simp [ents]
/-- A table: its server, how many may be, what there is, by aliases rising; block b is its map. -/
structure Tab (w : World) (g b : Nat) (server : ByteArray) (most : Int) (l : List En) : Prop where
  blk : w.heap[g]? = some (.cells #[.string server, .int .i64 most, .map (some b)] 80 (0, 0))
  mp : MapS w Tryz.prog 9 b (ents l)
theorem Tab.same {w w' : World} {g b : Nat} {server : ByteArray} {most : Int} {l : List En} (h : Tab w g b server most l) (hg : w'.heap[g]? = w.heap[g]?) (hb : w'.heap[b]? = w.heap[b]?) : Tab w' g b server most l := ⟨hg.trans h.blk, h.mp.same hb⟩
theorem Tab.below {w w' : World} {g b : Nat} {server : ByteArray} {most : Int} {l : List En} (h : Tab w g b server most l) (hb : Below w.heap.size w w') : Tab w' g b server most l := h.same (hb.block g (blk_lt h.blk)) (hb.block b h.mp.lt)
theorem Tab.ne {w : World} {g b : Nat} {server : ByteArray} {most : Int} {l : List En} (h : Tab w g b server most l) : g ≠ b := by
  rintro rfl
  obtain ⟨h1, es, clock, h2, _⟩ := h
  rw [h1] at h2
  cases h2
theorem zeroEn (w : World) : (zeroValue 49).run Tryz.prog w = .ok (.agg enZ.cells) w := by kernel_rfl
def errNone : Value := .iface 67 (.int .i64 16)
def getV : Option En → Value
  | some x => .tuple #[.agg x.cells, .nilIface]
  | none => .tuple #[.agg enZ.cells, errNone]
theorem three_heap {w : World} {g E : Nat} {cs : Array Value} {a b c : Value} (h : w.heap[g]? = some (.cells cs E (0, 0))) (hs : cs.size = 3) :
    (((w.setCell ⟨g, 0, none⟩ a).setCell ⟨g, 1, none⟩ b).setCell ⟨g, 2, none⟩ c).heap[g]? = some (.cells #[a, b, c] E (0, 0)) := by
  rw [setCell_heap_at (setCell_heap_at (setCell_heap_at h))]
  obtain ⟨l⟩ := cs
  match l, hs with
  | [_, _, _], _ => rfl
theorem results_row_tmp' {P : Program} {fn : Func} {p u : Tmp} {ty : TypeId} (h : fn.results = #[.cell p ty, .tmp u]) (tmps : Array Value) (w : World) (g : Nat) (t : TypeId) (cs : Array Value) (fr : Nat × Nat) (d : TypeDesc)
    (hp : tmps.getD p undef = .pointer (some ⟨g, 0, none⟩)) (hg : w.heap[g]? = some (.cells cs t fr))
    (hu : P.underlying ty = some d) (hd : (match d with | .struct _ | .array _ _ => true | _ => false) = true) (hi : (P.info? ty).map (·.size) = some cs.size) :
    (results fn tmps).run P w = .ok (.tuple #[.agg cs, tmps.getD u undef]) w := by
  have hp' : tmps[p]?.getD undef = .pointer (some ⟨g, 0, none⟩) := by simpa using hp
  simp [results, h, hp', asAddr, run_loadVar_row w g t ty cs fr d hg hu hd hi]

set_option maxRecDepth 100000 in
theorem get_calls (w : World) (g b : Nat) (server : ByteArray) (most : Int) (l : List En) (k : ByteArray) (ht : Tab w g b server most l) (hk : k.size ≤ maxLen) :
    Calls Tryz.prog 15 #[.pointer (some ⟨g, 0, none⟩), .string k] w fun e w' => e = .returned (getV (getE l k)) ∧ Below w.heap.size w w' := by
  have hg := blk_lt ht.blk
  have k2 := cell_at (j := 2) ht.blk rfl
  have HM := Lib.hid ht.mp
  have hG := ents_get l k
  clear ht
  generalize getE l k = o at *
  cases o with
  | none =>
    have hv : (getS (ents l) k).getD (.agg enZ.cells) = .agg enZ.cells := by rw [hG]; rfl
    have hok : (getS (ents l) k).isSome = false := by rw [hG]; rfl
    have HV := Lib.hid hv
    have HOK := Lib.hid hok
    clear hv hok hG
    go_enter Tryz.func15, Tryz.ntmps15
    go_wp2_with (at_lookup; refine lookupS_ok _ rfl _ _ 78 rfl 9 49 Tryz.underlying9 Tryz.underlying78 _ (zeroEn _) b (ents l) rfl ?cm k rfl hk _ false HV.out HOK.out ?_)
    case cm => exact HM.out.same (heap_old_at _ _ _ HM.out.lt)
    refine bodyPost_ret (results_row_tmp' rfl _ _ w.heap.size 49 _ (0, 0) _ rfl ((heap_old_at _ _ _ (by simp)).trans (heap_new_at w _ _ rfl)) Tryz.underlying49 rfl (by kernel_rfl)) rfl ?_
    exact ⟨rfl, ((Below.refl _ _).alloc (Nat.le_refl _) _).alloc (by simp) _⟩
  | some x =>
    have hv : (getS (ents l) k).getD (.agg enZ.cells) = .agg x.cells := by rw [hG]; rfl
    have hok : (getS (ents l) k).isSome = true := by rw [hG]; rfl
    have HV := Lib.hid hv
    have HOK := Lib.hid hok
    clear hv hok hG
    go_enter Tryz.func15, Tryz.ntmps15
    go_wp2_with (at_lookup; refine lookupS_ok _ rfl _ _ 78 rfl 9 49 Tryz.underlying9 Tryz.underlying78 _ (zeroEn _) b (ents l) rfl ?cm k rfl hk _ true HV.out HOK.out ?_)
    case cm => exact HM.out.same (heap_old_at _ _ _ HM.out.lt)
    refine bodyPost_ret (results_row_tmp' rfl _ _ w.heap.size 49 _ (0, 0) _ rfl ((heap_old_at _ _ _ (by simp)).trans (heap_new_at w _ _ rfl)) Tryz.underlying49 rfl (by kernel_rfl)) rfl ?_
    exact ⟨rfl, ((Below.refl _ _).alloc (Nat.le_refl _) _).alloc (by simp) _⟩

theorem len_calls (w : World) (g b : Nat) (server : ByteArray) (most : Int) (l : List En) (ht : Tab w g b server most l) :
    Calls Tryz.prog 23 #[.pointer (some ⟨g, 0, none⟩)] w fun e w' => e = .returned (.int .i64 l.length) ∧ w = w' := by
  have hg := blk_lt ht.blk
  have k2 := cell_at (j := 2) ht.blk rfl
  have HM := Lib.hid ht.mp
  have HL := Lib.hid (ents_length l)
  clear ht
  go_enter Tryz.func23, Tryz.ntmps23
  go_wp2_with (at_len; refine lenS _ rfl _ 78 rfl 9 49 Tryz.underlying78 b (ents l) rfl HM.out ?_)
  go_ret
  exact ⟨by rw [HL.out]; rfl, rfl⟩

/-- A fault about an error. -/
theorem in_calls (w : World) (P : Nat → Prop) (f : ByteArray) (v : Value) (p : List ByteArray) (c : Int) (h : Flt w P v p c) :
    Calls Tryz.prog 28 #[.string f, v] w fun e w' => ∃ v', e = .returned v' ∧ Flt w' (fun g => P g ∨ w.heap.size ≤ g) v' (f :: p) c ∧ Below w.heap.size w w' := by
  have HF := Lib.hid h
  obtain ⟨t, u, rfl⟩ : ∃ t u, v = .iface t u := by cases h <;> exact ⟨_, _, rfl⟩
  clear h
  go_enter Tryz.func28, Tryz.ntmps28
  go_wp2_with fail
  go_ret
  refine ⟨_, rfl, .fault w.heap.size f _ p c (heap_new _ _) (.inr (Nat.le_refl _)) ((HF.out.same (fun g hg _ => heap_old_at _ _ _ hg)).mono (fun g _ hg => .inl hg)), (Below.refl _ _).alloc (Nat.le_refl _) _⟩
/-- .. about a code. -/
theorem in_code (w : World) (f : ByteArray) (c : Int) :
    Calls Tryz.prog 28 #[.string f, .iface 67 (.int .i64 c)] w fun e w' => ∃ v', e = .returned v' ∧ ErrV w' (fun g => w.heap.size ≤ g) v' (some ([f], c)) ∧ Below w.heap.size w w' :=
  (in_calls w (fun _ => False) f _ [] c (.code c)).mono fun e w' ⟨v', h1, h2, h3⟩ => ⟨v', h1, h2.mono (fun g _ h => by rcases h with h | h; exact h.elim; exact h), h3⟩

abbrev sServer : ByteArray := ⟨#[115, 101, 114, 118, 101, 114]⟩
abbrev sRoom : ByteArray := ⟨#[114, 111, 111, 109]⟩
abbrev sAlias : ByteArray := ⟨#[97, 108, 105, 97, 115]⟩
abbrev sUser : ByteArray := ⟨#[117, 115, 101, 114]⟩
/-- What is wrong with a new table. -/
def newErr (s : ByteArray) (n : Int) : Er := if serverB s.data.toList = false then some ([sServer], 7) else if n < 1 ∨ 400 < n then some ([sRoom], 8) else none

theorem new_ok (w : World) (s : ByteArray) (n : Int) (hs : s.size < 4294967281) (hm : Mx w) (h1 : serverB s.data.toList = true) (h2 : 1 ≤ n) (h3 : n ≤ 400) :
    Calls Tryz.prog 9 #[.string s, .int .i64 n] w fun e w' => ∃ g b, e = .returned (.tuple #[.pointer (some ⟨g, 0, none⟩), .nilIface]) ∧ Tab w' g b s n [] ∧ w.heap.size ≤ g ∧ w.heap.size ≤ b ∧ Below w.heap.size w w' := by
  have HS := Lib.hid (isServer_calls w s hs hm)
  have hmm := @run_makeMap Tryz.prog
  have g1 : decide (n < (1 : Int)) = false := by simp; omega
  have g2 : decide ((400 : Int) < n) = false := by simp; omega
  clear hm
  rw [h1] at HS
  clear h1 h2 h3
  go_enter Tryz.func9, Tryz.ntmps9
  go_wp2_with fail
  refine HS.out.mono ?_
  rintro e w1 ⟨rfl, hb⟩
  have HB := Lib.hid hb
  clear hb HS
  go_wp2_with fail
  go_ret2
  refine ⟨w1.heap.size + 1, w1.heap.size, rfl, ⟨?_, ?_⟩, by have := HB.out.size; omega, HB.out.size, (HB.out.alloc HB.out.size _).alloc (by have := HB.out.size; simp; omega) _⟩
  · have := heap_new (w1.alloc (.map #[] 0)) (.cells #[.string s, .int .i64 n, .map (some w1.heap.size)] 80 (0, 0))
    simpa using this
  · exact (MapS.made w1 Tryz.prog 9).same (heap_old_at _ _ _ (by simp))
theorem new_bad (w : World) (s : ByteArray) (n : Int) (hs : s.size < 4294967281) (hm : Mx w) (hbad : newErr s n ≠ none) :
    Calls Tryz.prog 9 #[.string s, .int .i64 n] w fun e w' => ∃ v, e = .returned (.tuple #[.pointer none, v]) ∧ ErrV w' (fun g => w.heap.size ≤ g) v (newErr s n) ∧ Below w.heap.size w w' := by
  have HS := Lib.hid (isServer_calls w s hs hm)
  have HBAD := Lib.hid hbad
  clear hm hbad
  cases h1 : serverB s.data.toList with
  | false =>
    have HE := Lib.hid (show newErr s n = some ([sServer], 7) by unfold newErr; rw [if_pos h1])
    rw [h1] at HS
    clear h1
    go_enter Tryz.func9, Tryz.ntmps9
    go_wp2_with fail
    refine HS.out.mono ?_
    rintro e w1 ⟨rfl, hb⟩
    have HB := Lib.hid hb
    clear hb HS
    go_wp2_with fail
    refine (in_code w1 sServer 7).mono ?_
    rintro e w2 ⟨v, rfl, hv, hb2⟩
    have HV := Lib.hid hv
    have HB2 := Lib.hid (HB.out.trans (hb2.mono HB.out.size))
    clear hv hb2
    go_wp2_with fail
    go_ret2
    exact ⟨v, rfl, by rw [HE.out]; exact HV.out.mono (fun g _ h => Nat.le_trans HB.out.size h), HB2.out⟩
  | true =>
    have h400 : n < 1 ∨ 400 < n := by
      have := HBAD.out
      unfold newErr at this
      rw [if_neg (by rw [h1]; decide)] at this
      by_cases h : n < 1 ∨ 400 < n
      · exact h
      · rw [if_neg h] at this; exact absurd rfl this
    have HE := Lib.hid (show newErr s n = some ([sRoom], 8) by unfold newErr; rw [if_neg (by rw [h1]; decide), if_pos h400])
    rw [h1] at HS
    clear h1
    rcases Int.lt_or_le n 1 with hl | hl
    · have g1 : decide (n < (1 : Int)) = true := by simp; omega
      clear h400 hl
      go_enter Tryz.func9, Tryz.ntmps9
      go_wp2_with fail
      refine HS.out.mono ?_
      rintro e w1 ⟨rfl, hb⟩
      have HB := Lib.hid hb
      clear hb HS
      go_wp2_with fail
      refine (in_code w1 sRoom 8).mono ?_
      rintro e w2 ⟨v, rfl, hv, hb2⟩
      have HV := Lib.hid hv
      have HB2 := Lib.hid (HB.out.trans (hb2.mono HB.out.size))
      clear hv hb2
      go_wp2_with fail
      go_ret2
      exact ⟨v, rfl, by rw [HE.out]; exact HV.out.mono (fun g _ h => Nat.le_trans HB.out.size h), HB2.out⟩
    · have g1 : decide (n < (1 : Int)) = false := by simp; omega
      have g2 : decide ((400 : Int) < n) = true := by simp; omega
      clear h400 hl
      go_enter Tryz.func9, Tryz.ntmps9
      go_wp2_with fail
      refine HS.out.mono ?_
      rintro e w1 ⟨rfl, hb⟩
      have HB := Lib.hid hb
      clear hb HS
      go_wp2_with fail
      refine (in_code w1 sRoom 8).mono ?_
      rintro e w2 ⟨v, rfl, hv, hb2⟩
      have HV := Lib.hid hv
      have HB2 := Lib.hid (HB.out.trans (hb2.mono HB.out.size))
      clear hv hb2
      go_wp2_with fail
      go_ret2
      exact ⟨v, rfl, by rw [HE.out]; exact HV.out.mono (fun g _ h => Nat.le_trans HB.out.size h), HB2.out⟩
end Go.Proofs.YtgnoaeldmpbjmaaGreatDoor
/- A table's entries, gathered: maps.Values, slices.Collect. -/
set_option linter.unusedVariables false
namespace Go.Proofs.YtgnoaeldmpbjmaaGreatDoor
open Go.RowKit Go.Maps Go.Sort Go.Shelf
attribute [local go_sem] Oper.semAt_some

/-- How an entry's value reads. -/
def enR : Value → Option (DataW Value × List MemPlace)
  | .agg ⟨[.string a, .string r, .string b]⟩ => some (.held (.agg #[.string a, .string r, .string b]), [])
  | _ => none
theorem enR_inv {v : Value} {y : DataW Value × List MemPlace} (h : enR v = some y) : ∃ x : En, v = .agg x.cells ∧ y = (.held (.agg x.cells), []) := by
  unfold enR at h
  split at h
  · cases h
    exact ⟨⟨_, _, _⟩, rfl, rfl⟩
  · cases h
theorem enR_mk (x : En) : enR (.agg x.cells) = some (.held (.agg x.cells), []) := rfl
def En.key (x : En) : List UInt8 := x.a.data.toList
/-- Pairs of keys and entries, as the map has them. -/
def EnAt (D0 : DataW Value) (p : List UInt8 × En) : Prop := ∀ zd, D0.atKey (.string p.1) zd = .held (.agg p.2.cells)
def EnAll (D0 : DataW Value) (ps : List (List UInt8 × En)) : Prop := (ps.map (·.1)).Perm (strKeys D0) ∧ (∀ x, x ∈ ps.map (·.1) ↔ has D0 (.string x) = true) ∧ ∀ p ∈ ps, EnAt D0 p

theorem lawS : Keyed Tryz.prog 9 := string_keyed Tryz.underlying9
set_option maxRecDepth 100000 in
set_option maxHeartbeats 1000000 in
theorem values1_in (F : Fence) (n : Nat) (hF : F.fn 72) (hro : F.round = none) (hn : 1 ≤ n) (l Bm b nn : Nat) (D0 : DataW Value) (J Jx : List En → World → Prop)
    (hY : ∀ pre x W, J pre W → pre.length < Maps.size D0 → YieldAt F (n - 1) Tryz.prog l #[.agg x.cells] W fun e W' =>
      (e = .returned (.bool true) ∧ J (pre ++ [x]) W' ∧ KeepsWalks W W') ∨ (e = .returned (.bool false) ∧ Jx (pre ++ [x]) W'))
    (W : World) (hJ : AbidesFrom W.heap.size J) (hm : W.cell? ⟨Bm, 0, none⟩ = some (.map (some b))) (hown : W.ownsMap Tryz.prog 9 enR b nn D0) (h0 : J [] W) :
    CallsIn F n Tryz.prog 72 #[.func (.yield l) #[] #[], .pointer (some ⟨Bm, 0, none⟩)] W fun e W' => (∃ v, e = .returned v) ∧
      ((∃ xs, (∃ ps, EnAll D0 ps ∧ xs = ps.map (·.2)) ∧ J xs W') ∨ (∃ pre, True ∧ Jx pre W')) := by
  refine callsIn_of_wp Tryz.func72 rfl hF ?_ hro
  simp only [Tryz.ntmps72, List.size_toArray, List.length_cons, List.length_nil, Nat.reduceAdd, Nat.reduceSub, Array.replicate_succ, Array.replicate_zero, List.push_toArray, List.append_toArray, List.nil_append, List.cons_append]
  gi_wp2_with (first
    | (gi_at_range; refine wpListIn_range_own _ rfl _ 78 rfl 9 49 lawS Tryz.underlying78 _ b nn _ rfl hown ?_; intro w0 hrg0 hg0 hs0)
    | gi_in)
  go_frame
  gi_loopw [4] (fun _ wr => ∃ (left : Lit → Bool) (cnt : Nat) (ps : List (List UInt8 × En)), wr.ranges Tryz.prog 9 enR b W.heap.size nn D0 left cnt ∧ ps.length + cnt ≤ Maps.size D0 ∧ Collected D0 left (ps.map (·.1)) ∧ (∀ p ∈ ps, EnAt D0 p) ∧ J (ps.map (·.2)) wr)
    (fun _ wr => wr.rangeLeft b W.heap.size)
  case atStart =>
    exact ⟨_, _, [], hrg0, by simp, Collected.start D0, by simp, hJ [] W w0 none h0 hg0 (fun r e => by cases e)⟩
  case round =>
    obtain ⟨left, cnt, ps, hrg, hcs, hC, hV, hJs⟩ := hrel
    gi_wp2_with (first
      | (gi_at_next; refine wpListIn_next_ranges _ rfl _ rfl 9 lawS enR encStr (fun x : En => Value.agg x.cells) (fun key kl hk => by obtain ⟨x, hx, _⟩ := Maps.keyOf_str Tryz.underlying9 hk; exact ⟨x, hx⟩) (fun v y hv => by obtain ⟨c, rfl, _⟩ := enR_inv hv; exact ⟨c, rfl⟩) b W.heap.size nn _ _ _ rfl hrg ?_ ?_)
      | gi_in)
    · intro hc0 hl0
      gi_wp2
      go_end0
      exact ⟨⟨_, rfl⟩, .inl ⟨_, ⟨ps, ⟨hC.perm hown lawS Tryz.underlying9 hl0, fun x => by rw [hC.2 x, hl0]; simp, hV⟩, rfl⟩, hJs⟩⟩
    · intro x c kl yd yp w2 cnt2 hkey hlk hv hat hrg2 hlt hg2 hs2 hen
      obtain ⟨x', ex, rfl, _⟩ := Maps.keyOf_str Tryz.underlying9 hkey
      obtain rfl : x = x' := encStr_inj ex
      obtain ⟨c', ec, ez⟩ := enR_inv hv
      have hcc : c = c' := by
        obtain ⟨a1, a2, a3⟩ := c
        obtain ⟨b1, b2, b3⟩ := c'
        simp at ec
        obtain ⟨rfl, rfl, rfl⟩ := ec
        rfl
      subst hcc
      obtain rfl : yd = .held (.agg c.cells) := (Prod.mk.inj ez).1
      have hJ2 : J (ps.map (·.2)) (w2.alloc (.cells c.cells 49)) := hJ _ w2 _ none (hJ _ wr w2 (some W.heap.size) hJs hg2 (fun r e => by cases e; exact ⟨Nat.le_refl _, hrg.iter_walk⟩)) (World.grownBy_alloc _ _ _) (fun r e => by cases e)
      obtain ⟨fn, tmps, assign, body, hy, hR⟩ := hY (ps.map (·.2)) c (w2.alloc (.cells c.cells 49)) hJ2 (by simp; omega)
      dsimp only [En.cells] at hy hR
      clear hs2
      gi_wp2
      refine hR.mono ?_
      have hC2 : Collected D0 (fun z => left z && !z.sameKey (.string x)) ((ps ++ [(x, c)]).map (·.1)) := by simpa using hC.step hlk hat
      have hV2 : ∀ p ∈ ps ++ [(x, c)], EnAt D0 p := fun p hp => (List.mem_append.1 hp).elim (hV p) (fun e => by simp at e; subst e; exact hat)
      have hrg2' := hrg2.alloc (.cells #[.string c.a, .string c.r, .string c.b] 49)
      clear hy hR hen hrg2
      rintro e W3 (⟨rfl, hJ3, hk3⟩ | ⟨rfl, hJx3⟩)
      · have hrg3 := hrg2'.of_walks hk3
        gi_wp2
        go_roundw
        case rel => exact ⟨_, cnt2, ps ++ [(x, c)], hrg3, by simp; omega, hC2, hV2, by simpa using hJ3⟩
        case measure => rw [hrg3.left_eq, hrg.left_eq]; exact hlt
      · gi_wp2
        refine bodyPost_ret (results_none rfl _ _ _) rfl ?_
        exact ⟨⟨_, rfl⟩, .inr ⟨_, trivial, hJx3⟩⟩

set_option maxHeartbeats 1000000 in
theorem values_in (F : Fence) (n : Nat) (hf : F.fn 45) (hro : F.round = none) (mb : Option Nat) (w : World) :
    CallsIn F n Tryz.prog 45 #[.map mb] w fun e w' => e = .returned (.func (.func 72) #[] #[.pointer (some ⟨w.heap.size, 0, none⟩)]) ∧ w' = w.alloc (.cells #[.map mb] 78) := by
  refine callsIn_of_wp Tryz.func45 rfl hf ?_ hro
  simp only [Tryz.ntmps45, List.size_toArray, List.length_cons, List.length_nil, Nat.reduceAdd, Nat.reduceSub, Array.replicate_succ, Array.replicate_zero, List.push_toArray, List.append_toArray, List.nil_append, List.cons_append]
  gi_wp2
  go_ret
  exact ⟨rfl, rfl⟩
theorem values_stops (F : Fence) (n : Nat) (hF : F.fn 72) (hro : F.round = none) (hn : 1 ≤ n) (Bm b nn : Nat) (D0 : DataW Value) (w : World) (hBm : Bm < w.heap.size)
    (hm : w.cell? ⟨Bm, 0, none⟩ = some (.map (some b))) (hown : w.ownsMap Tryz.prog 9 enR b nn D0) :
    SeqStops F n Tryz.prog 72 #[.pointer (some ⟨Bm, 0, none⟩)] (fun x : En => Value.agg x.cells) (fun xs => ∃ ps, EnAll D0 ps ∧ xs = ps.map (·.2)) (fun _ => True) (Maps.size D0) w := fun l J Jx W hW hJ _ hY h0 => by
  have hown' : W.ownsMap Tryz.prog 9 enR b nn D0 := by
    have hbl := hown.lt
    obtain ⟨es, clock, hb, Ft, hs, hD⟩ := hown
    exact ⟨es, clock, (hW.block b hbl).trans hb, Ft, hs, hD⟩
  exact values1_in F n hF hro hn l Bm b nn D0 J Jx hY W hJ ((hW.cell (p := ⟨Bm, 0, none⟩) hBm).trans hm) hown' h0

theorem infoEn : (Tryz.prog.info? 49).map (fun i => (i.zero, i.size, i.bytes)) = some (some (.agg enZ.cells), 3, 48) := by kernel_rfl
abbrev ecells (l : List En) : List (List Value) := l.map fun x => x.cells.toList
theorem ecells_snoc (l : List En) (x : En) : (ecells (l ++ [x])).flatten = (ecells l).flatten ++ [.string x.a, .string x.r, .string x.b] := by simp [ecells]
theorem cells_new (w : World) (cs : Array Value) (t : TypeId) : ∀ j u, cs.toList[j]? = some u → (w.alloc (.cells cs t)).cell? ((⟨w.heap.size, 0, none⟩ : Addr).add j) = some u := by
  intro j u hj
  exact World.news_of_block (B := w.heap.size) (cs := cs) (t := t) (fr := (0, 0)) (heap_new w _) j u hj
theorem slot_own (B : Nat) (cs : Array Value) (t : TypeId) (W : World) (Y : World) (row : Option Nat) (h : W.heap[B]? = some (.cells cs t (0, 0))) (hg : W.grownBy Y row) (hr : ∀ r, row = some r → ∃ o : Obj, W.heap[r]? = some o ∧ o.isCells = false) : Y.heap[B]? = some (.cells cs t (0, 0)) := by
  refine (hg.block B (blk_lt h) (fun e => ?_)).trans h
  obtain ⟨o, ho, hc⟩ := hr B e.symm
  rw [h] at ho
  cases ho
  cases hc
set_option maxRecDepth 100000 in
set_option maxHeartbeats 2000000 in
/-- All of the map's entries, appended to nothing. -/
theorem appendSeq_in (F : Fence) (n : Nat) (h1 : F.fn 89) (hF : F.fn 72) (hro : F.round = none) (hn : 3 ≤ n) (Bm b nn : Nat) (D0 : DataW Value) (w : World) (hBm : Bm < w.heap.size)
    (hm : w.cell? ⟨Bm, 0, none⟩ = some (.map (some b))) (hown : w.ownsMap Tryz.prog 9 enR b nn D0) (hN : Maps.size D0 ≤ 1000000) :
    CallsIn F n Tryz.prog 89 #[.slice none 0 0, .func (.func 72) #[] #[.pointer (some ⟨Bm, 0, none⟩)]] w fun e W' =>
      ∃ v xs ps, e = .returned v ∧ EnAll D0 ps ∧ xs = ps.map (·.2) ∧ W'.ownsRow w.heap.size 49 3 v xs.length (ecells xs).flatten ∧ Below w.heap.size w W' := by
  have hn1 : 1 ≤ n := by omega
  obtain ⟨i0, hi, hz0, hz1, hz2⟩ := info_parts infoEn
  refine callsIn_of_wp_marks Tryz.func89 rfl h1 ?_ hro
  simp only [Tryz.ntmps89, List.size_toArray, List.length_cons, List.length_nil, Nat.reduceAdd, Nat.reduceSub, Array.replicate_succ, Array.replicate_zero, List.push_toArray, List.append_toArray, List.nil_append, List.cons_append]
  gi_wp2
  have bO := Boxed.new w 60 (.slice none 0 0)
  have hB0 : Below w.heap.size w (w.alloc (.cells #[.slice none 0 0] 60)) := (Below.refl _ w).alloc (Nat.le_refl _) _
  have hown0 : (w.alloc (.cells #[.slice none 0 0] 60)).ownsMap Tryz.prog 9 enR b nn D0 := hown.alloc _
  have hm0 : (w.alloc (.cells #[.slice none 0 0] 60)).cell? ⟨Bm, 0, none⟩ = some (.map (some b)) := (hB0.cell (p := ⟨Bm, 0, none⟩) hBm).trans hm
  refine wpIn_rangeFunc_ownH hro hn1 (gf := 72) (lb := #[.pointer (some ⟨Bm, 0, none⟩)]) rfl hF (enters_of Tryz.func72 (by kernel_rfl) rfl)
    (values_stops F (n - 1) hF hro (by omega) Bm b nn D0 _ (by simp; omega) hm0 hown0) walksK_t walksK_b (Below.refl _ _) (fun _ => rfl)
    (fun pre W => (∃ v, Boxed W w.heap.size 60 v ∧ W.ownsRow w.heap.size 49 3 v pre.length (ecells pre).flatten ∧ True) ∧ Below w.heap.size w W)
    (fun _ _ _ => False)
    (OwnFrom.and (Own.from (holdsRow_own w.heap.size w.heap.size 60 49 3 (fun pre : List En => pre.length) (fun pre => (ecells pre).flatten) (fun _ _ => True)) _) (ownFrom_below (Nat.le_refl _) (by simp)))
    (fun _ _ _ _ _ hs _ _ => hs)
    ⟨⟨_, bO, World.ownsRow_nil _ _ _ _, trivial⟩, hB0⟩
    (fun x a' W => ∃ Bx, w.heap.size < Bx ∧ W.heap[Bx]? = some (.cells x.cells 49 (0, 0)) ∧ a' = { tmps := #[.slice none 0 0, .func (.func 72) #[] #[.pointer (some ⟨Bm, 0, none⟩)], .pointer (some ⟨w.heap.size, 0, none⟩), undef, .slice none 0 0, .pointer (some ⟨Bx, 0, none⟩), .func (.func 72) #[] #[.pointer (some ⟨Bm, 0, none⟩)], .agg x.cells, undef, undef, undef, undef, undef], defers := [] })
    (fun x a' _ X Y row hs hg hr => by obtain ⟨Bx, h1, h2, h3⟩ := hs; exact ⟨Bx, h1, slot_own Bx _ _ X Y row h2 hg (fun r e => (hr r e).2), h3⟩)
    ?assign ?body ?done ?stop
  case assign =>
    rintro l pre x W K ⟨⟨v, hv, hrow, _⟩, hB⟩ hK
    gi_wp2
    exact hK _ _ ((KeepsOthers.alloc _ _).from _) (KeepsOthers.alloc _ _).walks ⟨⟨v, hv.alloc _, hrow.alloc _, trivial⟩, hB.alloc hB.size _⟩ ⟨W.heap.size, hv.lt, heap_new _ _, rfl⟩
  case body =>
    rintro l pre x a' W hl ⟨r, hr⟩ ⟨⟨v, hv, hrow, _⟩, hB⟩ ⟨Bx, hBx, bX, rfl⟩ hlt
    have hc := hv.cell
    have x0 := cell_at (j := 0) bX rfl
    have x1 := cell_at (j := 1) bX rfl
    have x2 := cell_at (j := 2) bX rfl
    gi_wp2_with (gi_at_builtin; refine wpListIn_append_own _ rfl _ _ 60 rfl w.heap.size 49 i0 (.agg enZ.cells) 3 48 Tryz.underlying60 hi hz0 hz1 hz2 rfl (by decide) _ _ _ rfl (hrow.alloc _) ⟨W.heap.size, 0, none⟩ 1 1 [.string x.a, .string x.r, .string x.b] rfl rfl (cells_new _ #[.string x.a, .string x.r, .string x.b] _) (by simp [Value.oneCell']) (by unfold maxLen; omega) (by omega) (by have := hB.size; simp; omega) ?_; intro v' w1 hown' hgrow _; obtain ⟨g', cap', rfl⟩ := ownsRow_succ hown'; obtain ⟨hv1, hv2, hr2, hk2, hb2⟩ := hv.appended (by decide) hrow hB.size (Nat.le_refl _) hown' hgrow; have hc1 := hv1.cell; have hf1 := hv1.frozen)
    exact ⟨hk2.from _, hk2.walks, ⟨_, hv2, by rw [ecells_snoc]; simpa using hr2, trivial⟩, hB.trans hb2⟩
  case done =>
    rintro D ys W hD ⟨ps, hps, rfl⟩ ⟨⟨v, hv, hrow, _⟩, hB⟩ hK
    have hc := hv.cell
    gi_wp2
    refine ⟨by simp, .inl ⟨_, _, rfl, run_takeDeferred hK, ?_⟩⟩
    exact ⟨_, results_tmp rfl _ _ _, v, _, ps, rfl, hps, rfl, ownsRow_putObj hrow _ hK rfl, hB.trans (belowK_b (w := w) (Nat.le_refl _) W D _ _ (by simp at hD; omega) hK rfl rfl)⟩
  case stop =>
    rintro D c pre W _ _ h _
    exact h.elim
end Go.Proofs.YtgnoaeldmpbjmaaGreatDoor
/- slices.SortFunc at entries. -/
set_option linter.unusedVariables false
namespace Go.Proofs.YtgnoaeldmpbjmaaGreatDoor
open Go.RowKit Go.Shelf Go.Sort

def renE : Go.Shelf.Ren := ⟨fun | 6 => 71 | 14 => 90 | 15 => 91 | 20 => 97 | 21 => 98 | 22 => 99 | 23 => 100 | 24 => 101 | 25 => 102 | 26 => 103 | 27 => 104 | 28 => 105 | 29 => 106 | 46 => 110 | 47 => 111 | 48 => 112 | 49 => 113 | 50 => 114 | 57 => 119 | n => n, fun | 0 => 0 | 3 => 3 | 4 => 4 | 5 => 5 | 9 => 9 | 22 => 60 | 24 => 49 | 25 => 119 | 39 => 192 | 45 => 195 | 46 => 196 | 50 => 200 | 53 => 203 | 55 => 205 | 66 => 207 | 70 => 211 | 76 => 214 | 77 => 215 | n => n, fun | n => n⟩
set_option maxRecDepth 100000 in
theorem laysE : Go.Proofs.SlLaysF0.n6 Tryz.prog renE := {
  mixed := by kernel_rfl
  f6 := ⟨"slices.SortFunc[[]enfilade/alias.Entry,enfilade/alias.Entry]", by decide, Tryz.func71.trans (congrArg some (by kernel_rfl))⟩
  f14 := ⟨"slices.pdqsortCmpFunc[enfilade/alias.Entry]", by decide, Tryz.func90.trans (congrArg some (by kernel_rfl))⟩
  f20 := ⟨"slices.insertionSortCmpFunc[enfilade/alias.Entry]", by decide, Tryz.func97.trans (congrArg some (by kernel_rfl))⟩
  f21 := ⟨"slices.heapSortCmpFunc[enfilade/alias.Entry]", by decide, Tryz.func98.trans (congrArg some (by kernel_rfl))⟩
  f22 := ⟨"slices.breakPatternsCmpFunc[enfilade/alias.Entry]", by decide, Tryz.func99.trans (congrArg some (by kernel_rfl))⟩
  f23 := ⟨"slices.choosePivotCmpFunc[enfilade/alias.Entry]", by decide, Tryz.func100.trans (congrArg some (by kernel_rfl))⟩
  f24 := ⟨"slices.reverseRangeCmpFunc[enfilade/alias.Entry]", by decide, Tryz.func101.trans (congrArg some (by kernel_rfl))⟩
  f25 := ⟨"slices.partialInsertionSortCmpFunc[enfilade/alias.Entry]", by decide, Tryz.func102.trans (congrArg some (by kernel_rfl))⟩
  f26 := ⟨"slices.partitionEqualCmpFunc[enfilade/alias.Entry]", by decide, Tryz.func103.trans (congrArg some (by kernel_rfl))⟩
  f27 := ⟨"slices.partitionCmpFunc[enfilade/alias.Entry]", by decide, Tryz.func104.trans (congrArg some (by kernel_rfl))⟩
  f46 := ⟨"slices.siftDownCmpFunc[enfilade/alias.Entry]", by decide, Tryz.func110.trans (congrArg some (by kernel_rfl))⟩
  f49 := ⟨"slices.medianAdjacentCmpFunc[enfilade/alias.Entry]", by decide, Tryz.func113.trans (congrArg some (by kernel_rfl))⟩
  f50 := ⟨"slices.medianCmpFunc[enfilade/alias.Entry]", by decide, Tryz.func114.trans (congrArg some (by kernel_rfl))⟩
  f57 := ⟨"slices.order2CmpFunc[enfilade/alias.Entry]", by decide, Tryz.func119.trans (congrArg some (by kernel_rfl))⟩
  f15 := Tryz.func91.trans (congrArg some (by kernel_rfl))
  f28 := Tryz.func105.trans (congrArg some (by kernel_rfl))
  f29 := Tryz.func106.trans (congrArg some (by kernel_rfl))
  f47 := Tryz.func111.trans (congrArg some (by kernel_rfl))
  f48 := Tryz.func112.trans (congrArg some (by kernel_rfl))
  t0 := Tryz.underlying0
  a0 := Tryz.isAgg0
  z0 := Tryz.sizeOf0
  v0 := Tryz.zeroValue0
  t3 := Tryz.underlying3
  a3 := Tryz.isAgg3
  z3 := Tryz.sizeOf3
  v3 := Tryz.zeroValue3
  t4 := Tryz.underlying4
  a4 := Tryz.isAgg4
  z4 := Tryz.sizeOf4
  v4 := Tryz.zeroValue4
  t5 := Tryz.underlying5
  a5 := Tryz.isAgg5
  z5 := Tryz.sizeOf5
  v5 := Tryz.zeroValue5
  t9 := Tryz.underlying9
  a9 := Tryz.isAgg9
  z9 := Tryz.sizeOf9
  v9 := Tryz.zeroValue9
  t22 := Tryz.underlying60
  a22 := Tryz.isAgg60
  z22 := Tryz.sizeOf60
  v22 := Tryz.zeroValue60
  t25 := Tryz.underlying119
  a25 := Tryz.isAgg119
  z25 := Tryz.sizeOf119
  v25 := Tryz.zeroValue119
  t39 := Tryz.underlying192
  a39 := Tryz.isAgg192
  z39 := Tryz.sizeOf192
  v39 := Tryz.zeroValue192
  t45 := Tryz.underlying195
  a45 := Tryz.isAgg195
  z45 := Tryz.sizeOf195
  v45 := Tryz.zeroValue195
  t46 := Tryz.underlying196
  a46 := Tryz.isAgg196
  z46 := Tryz.sizeOf196
  v46 := Tryz.zeroValue196
  t50 := Tryz.underlying200
  a50 := Tryz.isAgg200
  z50 := Tryz.sizeOf200
  v50 := Tryz.zeroValue200
  t53 := Tryz.underlying203
  a53 := Tryz.isAgg203
  z53 := Tryz.sizeOf203
  v53 := Tryz.zeroValue203
  t55 := Tryz.underlying205
  a55 := Tryz.isAgg205
  z55 := Tryz.sizeOf205
  v55 := Tryz.zeroValue205
  t66 := Tryz.underlying207
  a66 := Tryz.isAgg207
  z66 := Tryz.sizeOf207
  v66 := Tryz.zeroValue207
  t70 := Tryz.underlying211
  a70 := Tryz.isAgg211
  z70 := Tryz.sizeOf211
  v70 := Tryz.zeroValue211
  t76 := Tryz.underlying214
  a76 := Tryz.isAgg214
  z76 := Tryz.sizeOf214
  v76 := Tryz.zeroValue214
  t77 := Tryz.underlying215
  a77 := Tryz.isAgg215
  z77 := Tryz.sizeOf215
  v77 := Tryz.zeroValue215 }

theorem compare_lt : ∀ a b : List UInt8, decide (Lib.compareBytes a b < 0) = Sort.ltStr a b
  | [], [] => by simp [Lib.compareBytes, Sort.ltStr]
  | [], _ :: _ => by simp [Lib.compareBytes, Sort.ltStr]
  | _ :: _, [] => by simp [Lib.compareBytes, Sort.ltStr]
  | a :: la, b :: lb => by
    have ih := compare_lt la lb
    unfold Sort.ltStr at ih ⊢
    rw [Bool.eq_iff_iff] at ih ⊢
    simp only [decide_eq_true_eq] at ih ⊢
    rw [List.cons_lt_cons_iff]
    unfold Lib.compareBytes
    by_cases h1 : a < b
    · simp [h1]
    · by_cases h2 : b < a
      · simp only [if_neg h1, if_pos h2]
        constructor
        · intro h; omega
        · rintro (h | ⟨h, _⟩)
          · exact absurd h h1
          · subst h; exact absurd h2 h1
      · have : a = b := by
          apply UInt8.toNat_inj.1
          rw [UInt8.lt_iff_toNat_lt] at h1 h2
          omega
        simp only [if_neg h1, if_neg h2, ih]
        simp [this]
abbrev cmpE (a b : En) : Int := Lib.compareBytes a.a.data.toList b.a.data.toList
theorem swoE : SWO (ltOf cmpE) where
  irrefl x := by show decide (_ < _) = _; rw [compare_lt]; exact Sort.swo_ltStr.irrefl _
  trans x y z h1 h2 := by
    have e : ∀ a b : En, ltOf cmpE a b = Sort.ltStr a.a.data.toList b.a.data.toList := fun a b => compare_lt _ _
    rw [e] at *
    exact Sort.swo_ltStr.trans _ _ _ h1 h2
  ntrans x y z h1 h2 := by
    have e : ∀ a b : En, ltOf cmpE a b = Sort.ltStr a.a.data.toList b.a.data.toList := fun a b => compare_lt _ _
    rw [e] at *
    exact Sort.swo_ltStr.ntrans _ _ _ h1 h2
theorem cmpE_calls (w : World) (a b : En) : Calls Tryz.prog 46 #[.agg a.cells, .agg b.cells] w
    fun e w' => e = .returned (.int .i64 (cmpE a b)) ∧ w' = (w.alloc (.cells a.cells 49)).alloc (.cells b.cells 49) := by
  go_enter Tryz.func46, Tryz.ntmps46
  go_wp2_with fail
  refine (Tryz.strings_Compare a.a b.a _).mono ?_
  rintro e w1 ⟨rfl, rfl⟩
  go_wp2_with fail
  go_ret
  exact ⟨rfl, rfl⟩
instance : Inhabited En := ⟨enZ⟩
abbrev encE (x : En) : List Value := x.cells.toList
abbrev rowsE (l : List En) : List (List Value) := l.map encE
theorem getBangE {l : List En} {i : Nat} {m : En} (h : l[i]? = some m) : l.toArray[i]! = m := by
  simp [h]
theorem holdsE {w : World} {r cap : Nat} {l : List En} (h : Rw w 49 r cap 3 (rowsE l)) : HoldsK encE 3 w r 0 l.toArray := by
  intro j hj
  rw [size_flatK] at hj
  simp at hj
  rw [get_flatK _ _ _ _ (by simpa using hj)]
  have hi : j / 3 < l.length := by omega
  have hm : l[j / 3]? = some l[j / 3] := List.getElem?_eq_getElem hi
  rw [getBangE hm]
  have hd : j % 3 < 3 := Nat.mod_lt _ (by decide)
  have hc : (l[j / 3]).cells.toList[j % 3]? = some (encE l[j / 3])[j % 3]! := by
    have : j % 3 < (encE l[j / 3]).length := hd
    rw [List.getElem!_eq_getElem?_getD, List.getElem?_eq_getElem this]
    rfl
  have := h.cell (i := j / 3) (d := j % 3) (c := l[j / 3].cells.toList) (by simp [hm]) hc
  rw [show j / 3 * 3 + j % 3 = 0 + j by omega] at this
  exact ⟨this, h.frozen _⟩
theorem rowOfE {w w' : World} {r cap : Nat} {l : List En} {d' : Array En} {m : Nat} {os : Array Obj} (h : Rw w 49 r cap 3 (rowsE l)) (hs : d'.size = l.length) (hw : w' = sortWorldK encE 3 w r 0 m d' os) :
    Rw w' 49 r cap 3 (rowsE d'.toList) ∧ w.grownBy w' (some r) := by
  have hH := holdsK_sortWorldK_c encE 3 w r 0 l.toArray d' m os (holdsE h) h.lt (by simpa using hs)
  rw [← hw] at hH
  have hlt := h.lt
  obtain ⟨cur, h1, h2, h3, h4⟩ := h
  have hblk : ∃ cur', w'.heap[r]? = some (.cells cur' 49 (0, 0)) ∧ cur'.size = cur.size := by
    subst hw
    refine ⟨putCells id 0 (flatK encE 3 d') cur, ?_, by simp [putCells]⟩
    unfold sortWorldK putRowK putRow mapBlock Sort.ahead grow
    simp only
    rw [Array.getElem?_append_left (by simpa using hlt), Array.getElem?_modify, h1]
    simp [onCells]
  refine ⟨?_, ?_⟩
  · obtain ⟨cur', g1, g2⟩ := hblk
    simp at h3
    refine ⟨cur', g1, by omega, by simp; omega, ?_⟩
    intro i c hi
    simp at hi
    obtain ⟨y, hy, rfl⟩ := hi
    refine ⟨rfl, fun d hd => ?_⟩
    have hil : i < d'.size := (Array.getElem?_eq_some_iff.1 hy).1
    have := (hH (i * 3 + d) (by rw [size_flatK]; omega)).1
    rw [get_flatK _ _ _ _ (by omega)] at this
    rw [show (i * 3 + d) / 3 = i by omega, show (i * 3 + d) % 3 = d by omega] at this
    have hy2 : d'[i]! = y := by rw [Array.getElem!_eq_getD, Array.getD_eq_getD_getElem?, hy]; rfl
    rw [hy2] at this
    simp only [World.cell?, g1, Nat.zero_add] at this
    simp at this
    rw [this]
    have hd2 : d < (encE y).length := hd
    rw [List.getElem?_eq_getElem hd2]
    simp
  · subst hw
    refine ⟨rfl, rfl, rfl, ?_, ?_⟩
    · simp [sortWorldK, putRowK, putRow, mapBlock, Sort.ahead, grow]
    · intro g hg hne
      unfold sortWorldK putRowK putRow mapBlock Sort.ahead grow
      simp only
      rw [Array.getElem?_append_left (by simpa using hg), Array.getElem?_modify]
      rw [if_neg (fun e => hne (by rw [e]))]
theorem enterCmpE : ∀ args W, Sem.run Tryz.prog (callFunc 46 args) W = .ok (.enter 46 args) W := fun _ _ => by kernel_rfl
/-- slices.SortFunc: the same elements, in order. -/
theorem sortE_calls (w : World) (r cap : Nat) (l : List En) (hn : l.length ≤ 1000000) (hrw : Rw w 49 r cap 3 (rowsE l)) :
    Calls Tryz.prog 71 #[.slice (some ⟨r, 0, none⟩) l.length cap, .func (.func 46) #[] #[]] w
      fun e w' => e = .returned (.tuple #[]) ∧ ∃ l' : List En, l'.Perm l ∧ l'.Pairwise (fun a b => ltOf cmpE b a = false) ∧ Rw w' 49 r cap 3 (rowsE l') ∧ w.grownBy w' (some r) := by
  have h := AnyQ.slices_SortFunc laysE 3 Tryz.isAgg49 Tryz.sizeOf49 encE (fun _ => rfl) (fun x v hv => by
      simp at hv
      rcases hv with rfl | rfl | rfl <;> rfl) cmpE swoE 46 #[] r 0 cap l.toArray w enterCmpE
    (fun m os dk _ x y => (cmpE_calls _ x y).mono fun e w' ⟨h1, h2⟩ => ⟨h1, 0, #[.cells x.cells 49 (0, 0), .cells y.cells 49 (0, 0)], by
      rw [h2]
      unfold grow World.alloc World.drewN
      simp only [Nat.add_zero, World.mk.injEq, and_true]
      apply Array.ext'
      simp⟩)
    (holdsE hrw) hrw.lt (by simp; omega)
  simp only [List.size_toArray] at h
  refine h.mono ?_
  rintro e w' ⟨rfl, d', m, os, ⟨p1, _, p3⟩, hso, hw⟩
  have hsz : d'.size = l.length := by simpa using p1
  obtain ⟨r1, r2⟩ := rowOfE hrw hsz hw
  refine ⟨rfl, d'.toList, ?_, ?_, r1, r2⟩
  · have e1 : d'.extract 0 l.length = d' := by
      rw [Array.extract_eq_self_iff]; omega
    rw [e1] at p3
    simpa using p3
  · rw [List.pairwise_iff_getElem]
    intro i j hi hj hij
    have := hso i j (Nat.zero_le _) hij (by simp at hj; omega)
    simp at hi hj
    rw [getElem!_pos _ _ (by omega), getElem!_pos _ _ (by omega)] at this
    simpa using this
/-- .. of nothing. -/
theorem sortE_none (w : World) (p : Option Addr) (cap : Nat) (v : Value) :
    Calls Tryz.prog 71 #[.slice p 0 cap, v] w fun e w' => e = .returned (.tuple #[]) ∧ w' = w := AnyF.slices_SortFunc_none laysE p cap v w
end Go.Proofs.YtgnoaeldmpbjmaaGreatDoor
/- Entries in order: what is gathered of a map and sorted is what it has. No walk. -/
set_option linter.unusedVariables false
namespace Go.Proofs.YtgnoaeldmpbjmaaGreatDoor
open Go.RowKit Go.Maps Go.Sort

theorem bytes_lt : ∀ a b : List UInt8, bytesBefore a b = ltStr a b
  | [], [] => by simp [bytesBefore, ltStr]
  | [], _ :: _ => by simp [bytesBefore, ltStr]
  | _ :: _, [] => by simp [bytesBefore, ltStr]
  | a :: la, b :: lb => by
    have ih := bytes_lt la lb
    unfold ltStr at ih ⊢
    rw [Bool.eq_iff_iff] at ih ⊢
    unfold bytesBefore
    simp only [decide_eq_true_eq, Bool.or_eq_true, Bool.and_eq_true, beq_iff_eq] at ih ⊢
    rw [List.cons_lt_cons_iff, ih]
/-- By aliases rising, each once. -/
def RiseE (l : List En) : Prop := l.Pairwise fun x y => bytesBefore x.key y.key = true
theorem lt_irr (a : List UInt8) : ltStr a a = false := swo_ltStr.irrefl a
theorem RiseE.nodup {l : List En} (h : RiseE l) : (l.map En.key).Nodup := by
  refine List.pairwise_map.2 (h.imp fun {a b} hab e => ?_)
  rw [e, bytes_lt, lt_irr] at hab
  cases hab
theorem RiseE.get {l : List En} (h : RiseE l) {x : En} (hx : x ∈ l) : getE l x.a = some x := by
  unfold getE
  rw [List.find?_eq_some_iff_append]
  obtain ⟨s, t, rfl⟩ := List.append_of_mem hx
  refine ⟨by simp [aliasIs], s, t, rfl, fun y hy => ?_⟩
  have := (List.pairwise_append.1 h).2.2 y hy x (by simp)
  unfold aliasIs
  simp only [Bool.not_eq_true']
  rw [beq_eq_false_iff_ne]
  intro e
  have e2 : y.key = x.key := e
  rw [e2, bytes_lt, lt_irr] at this
  cases this
theorem cells_inj {x y : En} (h : Value.agg x.cells = .agg y.cells) : x = y := by
  obtain ⟨a1, a2, a3⟩ := x
  obtain ⟨b1, b2, b3⟩ := y
  simp at h
  obtain ⟨rfl, rfl, rfl⟩ := h
  rfl
theorem keys_MD (l : List En) : strKeys (MD (ents l)) = l.map En.key := by
  unfold MD ents strKeys
  simp only [List.map_map]
  rfl
theorem enAt_get {l : List En} {p : List UInt8 × En} (h : EnAt (MD (ents l)) p) : p.2 ∈ l ∧ p.2.key = p.1 := by
  have e1 : Lit.string p.1 = lk ⟨p.1.toArray⟩ := by simp [lk]
  have h1 := h (.held undef)
  rw [e1, MD_atKey, ents_get] at h1
  cases hg : getE l ⟨p.1.toArray⟩ with
  | none =>
    rw [hg] at h1
    injection h1 with h1
    cases h1
  | some x =>
    rw [hg] at h1
    injection h1 with h1
    have hx := cells_inj h1
    unfold getE at hg
    have h2 := List.find?_some hg
    have h3 := List.mem_of_find?_eq_some hg
    rw [hx] at h2 h3
    refine ⟨h3, ?_⟩
    unfold aliasIs at h2
    unfold En.key
    simpa using h2
/-- What came of the map is what it has, in some order. -/
theorem gathered {l : List En} (hl : RiseE l) {ps : List (List UInt8 × En)} (h : EnAll (MD (ents l)) ps) : (ps.map (·.2)).Perm l := by
  obtain ⟨h1, h2, h3⟩ := h
  rw [keys_MD] at h1
  have hk : (ps.map (·.2)).map En.key = ps.map (·.1) := by
    rw [List.map_map]
    exact List.map_congr_left fun p hp => (enAt_get (h3 p hp)).2
  have hnd : (ps.map (·.2)).Nodup := by
    have : ((ps.map (·.2)).map En.key).Nodup := by rw [hk]; exact h1.nodup_iff.2 hl.nodup
    exact (List.pairwise_map.1 this).imp fun {a b} hab e => hab (by rw [e])
  have hnl : l.Nodup := (List.pairwise_map.1 hl.nodup).imp fun {a b} hab e => hab (by rw [e])
  refine (List.perm_ext_iff_of_nodup hnd hnl).2 fun x => ⟨fun hx => ?_, fun hx => ?_⟩
  · obtain ⟨p, hp, rfl⟩ := List.mem_map.1 hx
    exact (enAt_get (h3 p hp)).1
  · have : x.key ∈ (ps.map (·.2)).map En.key := by
      rw [hk]
      exact h1.mem_iff.2 (List.mem_map.2 ⟨x, hx, rfl⟩)
    obtain ⟨y, hy, hyk⟩ := List.mem_map.1 this
    obtain ⟨p, hp, rfl⟩ := List.mem_map.1 hy
    have hm := (enAt_get (h3 p hp)).1
    have g1 := hl.get hx
    have g2 := hl.get hm
    have : getE l x.a = getE l p.2.a := by
      unfold getE
      congr 1
      funext z
      unfold aliasIs
      have : x.a.data.toList = p.2.a.data.toList := hyk.symm
      rw [this]
    rw [g1, g2] at this
    injection this with this
    rw [this]
    exact hy
/-- Sorted, that is it. -/
theorem sorted_is {l l' : List En} (hl : RiseE l) (hp : l'.Perm l) (hs : l'.Pairwise fun a b => ltOf cmpE b a = false) : l' = l := by
  refine List.Perm.eq_of_pairwise (le := fun a b : En => ltOf cmpE b a = false) (fun a b ha hb h1 h2 => ?_) hs ?_ hp
  · have e : ∀ a b : En, ltOf cmpE a b = ltStr a.key b.key := fun a b => compare_lt _ _
    rw [e] at h1 h2
    have hk : a.key = b.key := by
      unfold ltStr at h1 h2
      simp only [decide_eq_false_iff_not] at h1 h2
      exact List.le_antisymm (by simpa using h1) (by simpa using h2)
    have g1 := hl.get (hp.mem_iff.1 ha)
    have g2 := hl.get hb
    have : getE l a.a = getE l b.a := by
      unfold getE
      congr 1
      funext z
      unfold aliasIs
      have : a.a.data.toList = b.a.data.toList := hk
      rw [this]
    rw [g1, g2] at this
    exact Option.some.inj this
  · refine List.Pairwise.imp (fun {a b} hab => ?_) hl
    have e : ltOf cmpE b a = ltStr b.key a.key := compare_lt _ _
    rw [e]
    rw [bytes_lt] at hab
    have := swo_ltStr
    cases hc : ltStr b.key a.key with
    | false => rfl
    | true =>
      have := this.trans _ _ _ hab hc
      rw [lt_irr] at this
      cases this
/-- The map's entries read as entries. -/
theorem ownsE {w : World} {b : Nat} {l : List En} (h : MapS w Tryz.prog 9 b (ents l)) : w.ownsMap Tryz.prog 9 enR b (ents l).length (MD (ents l)) := by
  obtain ⟨es, clock, hb, F, hs, hD⟩ := h
  have hall : ∀ x ∈ es.toList, ∃ y : En, x.val = .agg y.cells := by
    intro x hx
    obtain ⟨y, hy⟩ := F.reads x hx
    have hm : WideElems.rg Tryz.prog 9 hR x ∈ (es.toList.map (WideElems.rg Tryz.prog 9 hR)).foldr DataW.insert [] := mem_sorted.2 (List.mem_map.2 ⟨x, hx, rfl⟩)
    unfold MD at hD
    injection hD with hD
    rw [← hD] at hm
    obtain ⟨e, he, heq⟩ := List.mem_map.1 hm
    unfold ents at he
    obtain ⟨en, _, rfl⟩ := List.mem_map.1 he
    obtain ⟨z, hz1, hz2⟩ := WideElems.rd_val hy
    have h4 := WideElems.rg_of hy
    rw [h4] at heq
    have h5 : (DataW.held (Value.agg en.cells) : DataW Value) = y.2 := congrArg Prod.snd heq
    unfold hR at hz1
    injection hz1 with hz1
    rw [hz2, ← hz1] at h5
    injection h5 with h5
    exact ⟨en, h5.symm⟩
  have := World.ownsMap_of_fit (R := enR) hb F (fun x hx z hz => by
    obtain ⟨y, hy⟩ := hall x hx
    rw [hy] at hz ⊢
    exact hz)
  rw [← hD] at this
  exact this.mono hs
end Go.Proofs.YtgnoaeldmpbjmaaGreatDoor
/- alias: an alias is given, or taken. -/
set_option linter.unusedVariables false
namespace Go.Proofs.YtgnoaeldmpbjmaaGreatDoor
open Go.RowKit

def delE (k : ByteArray) (l : List En) : List En := l.filter fun x => !aliasIs k x
theorem ents_del (k : ByteArray) (l : List En) : ents (delE k l) = delS k (ents l) := by
  unfold ents delE delS
  rw [List.filter_map]
  rfl
def insE (x : En) : List En → List En
  | [] => [x]
  | y :: r => if bytesBefore x.a.data.toList y.a.data.toList then x :: y :: r else y :: insE x r
theorem ents_ins (x : En) : ∀ l : List En, ents (insE x l) = insS (x.a, .agg x.cells) (ents l)
  | [] => rfl
  | y :: r => by
    show ents (if bytesBefore x.a.data.toList y.a.data.toList then x :: y :: r else y :: insE x r) = insS (x.a, .agg x.cells) ((y.a, .agg y.cells) :: ents r)
    unfold insS
    by_cases h : bytesBefore x.a.data.toList y.a.data.toList = true
    · rw [if_pos h, if_pos h]; rfl
    · rw [if_neg h, if_neg h]
      show (y.a, _) :: ents (insE x r) = _
      rw [ents_ins x r]
theorem del_none {k : ByteArray} {l : List En} (h : getE l k = none) : delE k l = l := by
  unfold delE
  rw [List.filter_eq_self]
  intro x hx
  have := List.find?_eq_none.1 h x hx
  simpa using this
def sameB (a b : ByteArray) : Bool := a.toList == b.toList
theorem ents_put {k : ByteArray} {l : List En} (x : En) (hx : x.a = k) (h : getE l k = none) : putS k (.agg x.cells) (ents l) = ents (insE x l) := by
  unfold putS
  rw [← ents_del, del_none h, ents_ins, hx]
/-- What is wrong with taking an alias. -/
def dropErr (l : List En) (k by_ : ByteArray) (may : Bool) : Er := match getE l k with
  | none => some ([], 16)
  | some x => if sameB x.b by_ || may then none else some ([], 22)
theorem Tab.turned {w w' : World} {g b : Nat} {server : ByteArray} {most : Int} {l l' : List En} (h : Tab w g b server most l) (hm : MapS w' Tryz.prog 9 b (ents l')) (hf : w'.heap[g]? = w.heap[g]?) : Tab w' g b server most l' := ⟨hf.trans h.blk, hm⟩

set_option maxRecDepth 100000 in
set_option maxHeartbeats 1000000 in
theorem drop_none (w : World) (g b : Nat) (server : ByteArray) (most : Int) (l : List En) (k by_ : ByteArray) (may : Bool) (ht : Tab w g b server most l) (hk : k.size ≤ maxLen) (hg : getE l k = none) :
    Calls Tryz.prog 33 #[.pointer (some ⟨g, 0, none⟩), .string k, .string by_, .bool may] w fun e w' => e = .returned (.iface 67 (.int .i64 16)) ∧ Tab w' g b server most l ∧ Fr (fun i => i = b) w w' := by
  have HT := Lib.hid ht
  have HG := Lib.hid (get_calls w g b server most l k ht hk)
  rw [hg] at HG
  have hgl := blk_lt ht.blk
  have hbl := ht.mp.lt
  have HNE := Lib.hid ht.ne
  clear ht hg
  go_enter Tryz.func33, Tryz.ntmps33
  go_wp2_with fail
  refine HG.out.mono ?_
  rintro e w1 ⟨rfl, hb1⟩
  have HT1 := Lib.hid (HT.out.below hb1)
  have HB1 := Lib.hid hb1
  have k2 := cell_at (j := 2) HT1.out.blk rfl
  have hg1 := blk_lt HT1.out.blk
  clear hb1 HG
  unfold getV
  unfold errNone
  go_wp2_with fail
  go_ret
  exact ⟨rfl, HT1.out.below (Below.alloc (Below.refl _ _) (Nat.le_refl _) _), (Fr.of_below HB1.out).trans (Fr.alloc _ _)⟩
set_option maxRecDepth 100000 in
set_option maxHeartbeats 1000000 in
theorem drop_denied (w : World) (g b : Nat) (server : ByteArray) (most : Int) (l : List En) (k by_ : ByteArray) (ht : Tab w g b server most l) (hk : k.size ≤ maxLen) (x : En) (hg : getE l k = some x) (hb : (x.b.toList == by_.toList) = false) :
    Calls Tryz.prog 33 #[.pointer (some ⟨g, 0, none⟩), .string k, .string by_, .bool false] w fun e w' => e = .returned (.iface 67 (.int .i64 22)) ∧ Tab w' g b server most l ∧ Fr (fun i => i = b) w w' := by
  have HT := Lib.hid ht
  have HG := Lib.hid (get_calls w g b server most l k ht hk)
  rw [hg] at HG
  have hgl := blk_lt ht.blk
  have hbl := ht.mp.lt
  have HNE := Lib.hid ht.ne
  clear ht hg
  go_enter Tryz.func33, Tryz.ntmps33
  go_wp2_with fail
  refine HG.out.mono ?_
  rintro e w1 ⟨rfl, hb1⟩
  have HT1 := Lib.hid (HT.out.below hb1)
  have HB1 := Lib.hid hb1
  have k2 := cell_at (j := 2) HT1.out.blk rfl
  have hg1 := blk_lt HT1.out.blk
  clear hb1 HG
  unfold getV
  go_wp2_with fail
  go_ret
  exact ⟨rfl, HT1.out.below (Below.alloc (Below.refl _ _) (Nat.le_refl _) _), (Fr.of_below HB1.out).trans (Fr.alloc _ _)⟩
set_option maxRecDepth 100000 in
set_option maxHeartbeats 1000000 in
theorem drop_same (w : World) (g b : Nat) (server : ByteArray) (most : Int) (l : List En) (k by_ : ByteArray) (may : Bool) (ht : Tab w g b server most l) (hk : k.size ≤ maxLen) (x : En) (hg : getE l k = some x) (hb : (x.b.toList == by_.toList) = true) :
    Calls Tryz.prog 33 #[.pointer (some ⟨g, 0, none⟩), .string k, .string by_, .bool may] w fun e w' => e = .returned (.nilIface) ∧ Tab w' g b server most (delE k l) ∧ Fr (fun i => i = b) w w' := by
  have HT := Lib.hid ht
  have HG := Lib.hid (get_calls w g b server most l k ht hk)
  rw [hg] at HG
  have hgl := blk_lt ht.blk
  have hbl := ht.mp.lt
  have HNE := Lib.hid ht.ne
  clear ht hg
  go_enter Tryz.func33, Tryz.ntmps33
  go_wp2_with fail
  refine HG.out.mono ?_
  rintro e w1 ⟨rfl, hb1⟩
  have HT1 := Lib.hid (HT.out.below hb1)
  have HB1 := Lib.hid hb1
  have k2 := cell_at (j := 2) HT1.out.blk rfl
  have hg1 := blk_lt HT1.out.blk
  clear hb1 HG
  unfold getV
  cases may
  all_goals
    go_wp2_with (at_delete; refine deleteS _ rfl _ _ 78 9 rfl 49 Tryz.underlying9 Tryz.underlying78 b (ents l) rfl ?cm k rfl hk ?_)
    case cm => exact HT1.out.mp.same (heap_old_at _ _ _ HT1.out.mp.lt)
    intro w2 hm2 hturn
    have HFR := Lib.hid (Fr.of_turned (S := fun i => i = b) (P := Tryz.prog) (kt := 9) (HT1.out.mp.same (heap_old_at _ (.cells #[.string x.a, .string x.r, .string x.b] 49) _ HT1.out.mp.lt)) hturn rfl)
    have HM2 := Lib.hid hm2
    clear hm2 hturn
    go_wp2_with fail
    go_ret
    refine ⟨rfl, ⟨?_, by rw [ents_del]; exact HM2.out⟩, ((Fr.of_below HB1.out).trans (Fr.alloc _ _)).trans HFR.out⟩
    exact (HFR.out.block g (by simp; omega) HNE.out).trans ((heap_old_at _ _ _ hg1).trans HT1.out.blk)
set_option maxRecDepth 100000 in
set_option maxHeartbeats 1000000 in
theorem drop_may (w : World) (g b : Nat) (server : ByteArray) (most : Int) (l : List En) (k by_ : ByteArray) (ht : Tab w g b server most l) (hk : k.size ≤ maxLen) (x : En) (hg : getE l k = some x) (hb : (x.b.toList == by_.toList) = false) :
    Calls Tryz.prog 33 #[.pointer (some ⟨g, 0, none⟩), .string k, .string by_, .bool true] w fun e w' => e = .returned (.nilIface) ∧ Tab w' g b server most (delE k l) ∧ Fr (fun i => i = b) w w' := by
  have HT := Lib.hid ht
  have HG := Lib.hid (get_calls w g b server most l k ht hk)
  rw [hg] at HG
  have hgl := blk_lt ht.blk
  have hbl := ht.mp.lt
  have HNE := Lib.hid ht.ne
  clear ht hg
  go_enter Tryz.func33, Tryz.ntmps33
  go_wp2_with fail
  refine HG.out.mono ?_
  rintro e w1 ⟨rfl, hb1⟩
  have HT1 := Lib.hid (HT.out.below hb1)
  have HB1 := Lib.hid hb1
  have k2 := cell_at (j := 2) HT1.out.blk rfl
  have hg1 := blk_lt HT1.out.blk
  clear hb1 HG
  unfold getV
  go_wp2_with (at_delete; refine deleteS _ rfl _ _ 78 9 rfl 49 Tryz.underlying9 Tryz.underlying78 b (ents l) rfl ?cm k rfl hk ?_)
  case cm => exact HT1.out.mp.same (heap_old_at _ _ _ HT1.out.mp.lt)
  intro w2 hm2 hturn
  have HFR := Lib.hid (Fr.of_turned (S := fun i => i = b) (P := Tryz.prog) (kt := 9) (HT1.out.mp.same (heap_old_at _ (.cells #[.string x.a, .string x.r, .string x.b] 49) _ HT1.out.mp.lt)) hturn rfl)
  have HM2 := Lib.hid hm2
  clear hm2 hturn
  go_wp2_with fail
  go_ret
  refine ⟨rfl, ⟨?_, by rw [ents_del]; exact HM2.out⟩, ((Fr.of_below HB1.out).trans (Fr.alloc _ _)).trans HFR.out⟩
  exact (HFR.out.block g (by simp; omega) HNE.out).trans ((heap_old_at _ _ _ hg1).trans HT1.out.blk)
set_option maxRecDepth 100000 in
set_option maxHeartbeats 1000000 in
theorem add_alias (w : World) (g b : Nat) (server : ByteArray) (most : Int) (l : List En) (k room by_ : ByteArray) (ht : Tab w g b server most l) (hk : k.size < 4294967281) (hr : room.size < 4294967281) (hb : by_.size < 4294967281) (hm : Mx w) (h1 : isB 3 k.data.toList = false) :
    Calls Tryz.prog 24 #[.pointer (some ⟨g, 0, none⟩), .string k, .string room, .string by_] w fun e w' => ∃ v, e = .returned v ∧ ErrV w' (fun i => w.heap.size ≤ i) v (some ([sAlias], 7)) ∧ Tab w' g b server most l ∧ Below w.heap.size w w' := by
  have HT := Lib.hid ht
  have HM := Lib.hid hm
  have hpos := hm.pos
  have hkm : k.size ≤ maxLen := by unfold maxLen; omega
  have hgl := blk_lt ht.blk
  have k2 := cell_at (j := 2) ht.blk rfl
  have HNE := Lib.hid ht.ne
  obtain ⟨x, ok, hv, hok⟩ : ∃ (x : En) (ok : Bool), (getS (ents l) k).getD (.agg enZ.cells) = .agg x.cells ∧ (getS (ents l) k).isSome = ok := by
    rw [ents_get]
    cases getE l k with
    | none => exact ⟨enZ, _, rfl, rfl⟩
    | some x => exact ⟨x, _, rfl, rfl⟩
  have HV := Lib.hid hv
  have HOK := Lib.hid hok
  clear hv hok
  have HI1 := Lib.hid (fun (W : World) (h : Below w.heap.size w W) => (show Calls Tryz.prog 27 #[.int .i64 3, .string k] W fun e wq => e = .returned (.bool (isB 3 k.data.toList)) ∧ Below W.heap.size W wq from is_calls W 3 k (by omega) hk (hm.below h hpos)))
  rw [h1] at HI1
  clear h1
  have HEL := Lib.hid (ents_length l)
  clear ht hm
  go_enter Tryz.func24, Tryz.ntmps24
  go_wp2_with (at_lookup; refine lookupS_ok _ rfl _ _ 78 rfl 9 49 Tryz.underlying9 Tryz.underlying78 _ (zeroEn _) b (ents l) rfl HT.out.mp k rfl hkm _ ok HV.out HOK.out ?_)
  have HB0 := Lib.hid (show Below w.heap.size w (w.alloc (.cells #[.string (x).a, .string (x).r, .string (x).b] 49)) from (Below.refl _ _).alloc (Nat.le_refl _) _)
  with_reducible refine (HI1.out _ HB0.out).mono ?_
  rintro e w1 ⟨rfl, hb1⟩
  have HB1 := Lib.hid (HB0.out.trans (hb1.mono HB0.out.size))
  clear hb1 HI1
  go_wp2_with fail
  refine (in_code w1 sAlias 7).mono ?_
  rintro e wz ⟨v, rfl, hv, hbz⟩
  have HVV := Lib.hid hv
  have HBZ := Lib.hid (HB1.out.trans (hbz.mono HB1.out.size))
  clear hv hbz
  go_wp2_with fail
  go_ret
  exact ⟨v, rfl, HVV.out.mono (fun i _ h => Nat.le_trans HB1.out.size h), HT.out.below HBZ.out, HBZ.out⟩
set_option maxRecDepth 100000 in
set_option maxHeartbeats 1000000 in
theorem add_room (w : World) (g b : Nat) (server : ByteArray) (most : Int) (l : List En) (k room by_ : ByteArray) (ht : Tab w g b server most l) (hk : k.size < 4294967281) (hr : room.size < 4294967281) (hb : by_.size < 4294967281) (hm : Mx w) (h1 : isB 3 k.data.toList = true) (h2 : isB 1 room.data.toList = false) :
    Calls Tryz.prog 24 #[.pointer (some ⟨g, 0, none⟩), .string k, .string room, .string by_] w fun e w' => ∃ v, e = .returned v ∧ ErrV w' (fun i => w.heap.size ≤ i) v (some ([sRoom], 7)) ∧ Tab w' g b server most l ∧ Below w.heap.size w w' := by
  have HT := Lib.hid ht
  have HM := Lib.hid hm
  have hpos := hm.pos
  have hkm : k.size ≤ maxLen := by unfold maxLen; omega
  have hgl := blk_lt ht.blk
  have k2 := cell_at (j := 2) ht.blk rfl
  have HNE := Lib.hid ht.ne
  obtain ⟨x, ok, hv, hok⟩ : ∃ (x : En) (ok : Bool), (getS (ents l) k).getD (.agg enZ.cells) = .agg x.cells ∧ (getS (ents l) k).isSome = ok := by
    rw [ents_get]
    cases getE l k with
    | none => exact ⟨enZ, _, rfl, rfl⟩
    | some x => exact ⟨x, _, rfl, rfl⟩
  have HV := Lib.hid hv
  have HOK := Lib.hid hok
  clear hv hok
  have HI1 := Lib.hid (fun (W : World) (h : Below w.heap.size w W) => (show Calls Tryz.prog 27 #[.int .i64 3, .string k] W fun e wq => e = .returned (.bool (isB 3 k.data.toList)) ∧ Below W.heap.size W wq from is_calls W 3 k (by omega) hk (hm.below h hpos)))
  rw [h1] at HI1
  clear h1
  have HI2 := Lib.hid (fun (W : World) (h : Below w.heap.size w W) => (show Calls Tryz.prog 27 #[.int .i64 1, .string room] W fun e wq => e = .returned (.bool (isB 1 room.data.toList)) ∧ Below W.heap.size W wq from is_calls W 1 room (by omega) hr (hm.below h hpos)))
  rw [h2] at HI2
  clear h2
  have HEL := Lib.hid (ents_length l)
  clear ht hm
  go_enter Tryz.func24, Tryz.ntmps24
  go_wp2_with (at_lookup; refine lookupS_ok _ rfl _ _ 78 rfl 9 49 Tryz.underlying9 Tryz.underlying78 _ (zeroEn _) b (ents l) rfl HT.out.mp k rfl hkm _ ok HV.out HOK.out ?_)
  have HB0 := Lib.hid (show Below w.heap.size w (w.alloc (.cells #[.string (x).a, .string (x).r, .string (x).b] 49)) from (Below.refl _ _).alloc (Nat.le_refl _) _)
  with_reducible refine (HI1.out _ HB0.out).mono ?_
  rintro e w1 ⟨rfl, hb1⟩
  have HB1 := Lib.hid (HB0.out.trans (hb1.mono HB0.out.size))
  clear hb1 HI1
  go_wp2_with fail
  with_reducible refine (HI2.out _ HB1.out).mono ?_
  rintro e w2 ⟨rfl, hb2⟩
  have HB2 := Lib.hid (HB1.out.trans (hb2.mono HB1.out.size))
  clear hb2 HI2
  go_wp2_with fail
  refine (in_code w2 sRoom 7).mono ?_
  rintro e wz ⟨v, rfl, hv, hbz⟩
  have HVV := Lib.hid hv
  have HBZ := Lib.hid (HB2.out.trans (hbz.mono HB2.out.size))
  clear hv hbz
  go_wp2_with fail
  go_ret
  exact ⟨v, rfl, HVV.out.mono (fun i _ h => Nat.le_trans HB2.out.size h), HT.out.below HBZ.out, HBZ.out⟩
set_option maxRecDepth 100000 in
set_option maxHeartbeats 1000000 in
theorem add_user (w : World) (g b : Nat) (server : ByteArray) (most : Int) (l : List En) (k room by_ : ByteArray) (ht : Tab w g b server most l) (hk : k.size < 4294967281) (hr : room.size < 4294967281) (hb : by_.size < 4294967281) (hm : Mx w) (h1 : isB 3 k.data.toList = true) (h2 : isB 1 room.data.toList = true) (h3 : isB 2 by_.data.toList = false) :
    Calls Tryz.prog 24 #[.pointer (some ⟨g, 0, none⟩), .string k, .string room, .string by_] w fun e w' => ∃ v, e = .returned v ∧ ErrV w' (fun i => w.heap.size ≤ i) v (some ([sUser], 7)) ∧ Tab w' g b server most l ∧ Below w.heap.size w w' := by
  have HT := Lib.hid ht
  have HM := Lib.hid hm
  have hpos := hm.pos
  have hkm : k.size ≤ maxLen := by unfold maxLen; omega
  have hgl := blk_lt ht.blk
  have k2 := cell_at (j := 2) ht.blk rfl
  have HNE := Lib.hid ht.ne
  obtain ⟨x, ok, hv, hok⟩ : ∃ (x : En) (ok : Bool), (getS (ents l) k).getD (.agg enZ.cells) = .agg x.cells ∧ (getS (ents l) k).isSome = ok := by
    rw [ents_get]
    cases getE l k with
    | none => exact ⟨enZ, _, rfl, rfl⟩
    | some x => exact ⟨x, _, rfl, rfl⟩
  have HV := Lib.hid hv
  have HOK := Lib.hid hok
  clear hv hok
  have HI1 := Lib.hid (fun (W : World) (h : Below w.heap.size w W) => (show Calls Tryz.prog 27 #[.int .i64 3, .string k] W fun e wq => e = .returned (.bool (isB 3 k.data.toList)) ∧ Below W.heap.size W wq from is_calls W 3 k (by omega) hk (hm.below h hpos)))
  rw [h1] at HI1
  clear h1
  have HI2 := Lib.hid (fun (W : World) (h : Below w.heap.size w W) => (show Calls Tryz.prog 27 #[.int .i64 1, .string room] W fun e wq => e = .returned (.bool (isB 1 room.data.toList)) ∧ Below W.heap.size W wq from is_calls W 1 room (by omega) hr (hm.below h hpos)))
  rw [h2] at HI2
  clear h2
  have HI3 := Lib.hid (fun (W : World) (h : Below w.heap.size w W) => (show Calls Tryz.prog 27 #[.int .i64 2, .string by_] W fun e wq => e = .returned (.bool (isB 2 by_.data.toList)) ∧ Below W.heap.size W wq from is_calls W 2 by_ (by omega) hb (hm.below h hpos)))
  rw [h3] at HI3
  clear h3
  have HEL := Lib.hid (ents_length l)
  clear ht hm
  go_enter Tryz.func24, Tryz.ntmps24
  go_wp2_with (at_lookup; refine lookupS_ok _ rfl _ _ 78 rfl 9 49 Tryz.underlying9 Tryz.underlying78 _ (zeroEn _) b (ents l) rfl HT.out.mp k rfl hkm _ ok HV.out HOK.out ?_)
  have HB0 := Lib.hid (show Below w.heap.size w (w.alloc (.cells #[.string (x).a, .string (x).r, .string (x).b] 49)) from (Below.refl _ _).alloc (Nat.le_refl _) _)
  with_reducible refine (HI1.out _ HB0.out).mono ?_
  rintro e w1 ⟨rfl, hb1⟩
  have HB1 := Lib.hid (HB0.out.trans (hb1.mono HB0.out.size))
  clear hb1 HI1
  go_wp2_with fail
  with_reducible refine (HI2.out _ HB1.out).mono ?_
  rintro e w2 ⟨rfl, hb2⟩
  have HB2 := Lib.hid (HB1.out.trans (hb2.mono HB1.out.size))
  clear hb2 HI2
  go_wp2_with fail
  with_reducible refine (HI3.out _ HB2.out).mono ?_
  rintro e w3 ⟨rfl, hb3⟩
  have HB3 := Lib.hid (HB2.out.trans (hb3.mono HB2.out.size))
  clear hb3 HI3
  go_wp2_with fail
  refine (in_code w3 sUser 7).mono ?_
  rintro e wz ⟨v, rfl, hv, hbz⟩
  have HVV := Lib.hid hv
  have HBZ := Lib.hid (HB3.out.trans (hbz.mono HB3.out.size))
  clear hv hbz
  go_wp2_with fail
  go_ret
  exact ⟨v, rfl, HVV.out.mono (fun i _ h => Nat.le_trans HB3.out.size h), HT.out.below HBZ.out, HBZ.out⟩
set_option maxRecDepth 100000 in
set_option maxHeartbeats 1000000 in
theorem add_server (w : World) (g b : Nat) (server : ByteArray) (most : Int) (l : List En) (k room by_ : ByteArray) (ht : Tab w g b server most l) (hk : k.size < 4294967281) (hr : room.size < 4294967281) (hb : by_.size < 4294967281) (hm : Mx w) (h1 : isB 3 k.data.toList = true) (h2 : isB 1 room.data.toList = true) (h3 : isB 2 by_.data.toList = true) (h4 : ((ofL (ofB k.data.toList)).toList == server.toList) = false) :
    Calls Tryz.prog 24 #[.pointer (some ⟨g, 0, none⟩), .string k, .string room, .string by_] w fun e w' => ∃ v, e = .returned v ∧ ErrV w' (fun i => w.heap.size ≤ i) v (some ([sAlias], 22)) ∧ Tab w' g b server most l ∧ Below w.heap.size w w' := by
  have HT := Lib.hid ht
  have HM := Lib.hid hm
  have hpos := hm.pos
  have hkm : k.size ≤ maxLen := by unfold maxLen; omega
  have hgl := blk_lt ht.blk
  have k2 := cell_at (j := 2) ht.blk rfl
  have HNE := Lib.hid ht.ne
  obtain ⟨x, ok, hv, hok⟩ : ∃ (x : En) (ok : Bool), (getS (ents l) k).getD (.agg enZ.cells) = .agg x.cells ∧ (getS (ents l) k).isSome = ok := by
    rw [ents_get]
    cases getE l k with
    | none => exact ⟨enZ, _, rfl, rfl⟩
    | some x => exact ⟨x, _, rfl, rfl⟩
  have HV := Lib.hid hv
  have HOK := Lib.hid hok
  clear hv hok
  have HI1 := Lib.hid (fun (W : World) (h : Below w.heap.size w W) => (show Calls Tryz.prog 27 #[.int .i64 3, .string k] W fun e wq => e = .returned (.bool (isB 3 k.data.toList)) ∧ Below W.heap.size W wq from is_calls W 3 k (by omega) hk (hm.below h hpos)))
  rw [h1] at HI1
  clear h1
  have HI2 := Lib.hid (fun (W : World) (h : Below w.heap.size w W) => (show Calls Tryz.prog 27 #[.int .i64 1, .string room] W fun e wq => e = .returned (.bool (isB 1 room.data.toList)) ∧ Below W.heap.size W wq from is_calls W 1 room (by omega) hr (hm.below h hpos)))
  rw [h2] at HI2
  clear h2
  have HI3 := Lib.hid (fun (W : World) (h : Below w.heap.size w W) => (show Calls Tryz.prog 27 #[.int .i64 2, .string by_] W fun e wq => e = .returned (.bool (isB 2 by_.data.toList)) ∧ Below W.heap.size W wq from is_calls W 2 by_ (by omega) hb (hm.below h hpos)))
  rw [h3] at HI3
  clear h3
  have HOF := Lib.hid (fun (W : World) (h : Below w.heap.size w W) => of_calls W k hk (hm.below h hpos))
  generalize ofL (ofB k.data.toList) = host at *
  have HEL := Lib.hid (ents_length l)
  clear ht hm
  go_enter Tryz.func24, Tryz.ntmps24
  go_wp2_with (at_lookup; refine lookupS_ok _ rfl _ _ 78 rfl 9 49 Tryz.underlying9 Tryz.underlying78 _ (zeroEn _) b (ents l) rfl HT.out.mp k rfl hkm _ ok HV.out HOK.out ?_)
  have HB0 := Lib.hid (show Below w.heap.size w (w.alloc (.cells #[.string (x).a, .string (x).r, .string (x).b] 49)) from (Below.refl _ _).alloc (Nat.le_refl _) _)
  with_reducible refine (HI1.out _ HB0.out).mono ?_
  rintro e w1 ⟨rfl, hb1⟩
  have HB1 := Lib.hid (HB0.out.trans (hb1.mono HB0.out.size))
  clear hb1 HI1
  go_wp2_with fail
  with_reducible refine (HI2.out _ HB1.out).mono ?_
  rintro e w2 ⟨rfl, hb2⟩
  have HB2 := Lib.hid (HB1.out.trans (hb2.mono HB1.out.size))
  clear hb2 HI2
  go_wp2_with fail
  with_reducible refine (HI3.out _ HB2.out).mono ?_
  rintro e w3 ⟨rfl, hb3⟩
  have HB3 := Lib.hid (HB2.out.trans (hb3.mono HB2.out.size))
  clear hb3 HI3
  go_wp2_with fail
  have hgw := Nat.lt_of_lt_of_le hgl HB3.out.size
  have fp0 : ∀ p : BelW w3, p.world.cell? ⟨g, 0, none⟩ = some (.string server) := fun p => (p.h.cell (p := ⟨g, 0, none⟩) hgw).trans (cell_at (HT.out.below HB3.out).blk rfl)
  refine wp_region_quiet_bel (by kernel_rfl) (by kernel_rfl) ?_
  repeat (quiet_step (with_reducible exact Calls.bel_of (HOF.out _ (HB3.out.trans ((BelW.h _).mono HB3.out.size)))))
  refine wpQuiet_nil ?_
  intro _ hw'
  obtain ⟨p, rfl⟩ := hw'
  have HP := Lib.hid (HB3.out.trans (p.h.mono HB3.out.size))
  obtain ⟨w4, hw4⟩ : ∃ w4, w4 = p.world := ⟨_, rfl⟩
  rw [← hw4] at HP
  rw [← hw4]
  clear fp0 HOF hw4
  have HT4 := Lib.hid (HT.out.below HP.out)
  have k2 := cell_at (j := 2) HT4.out.blk rfl
  have k1 := cell_at (j := 1) HT4.out.blk rfl
  have hg4 := blk_lt HT4.out.blk
  go_wp2_with fail
  refine (in_code w4 sAlias 22).mono ?_
  rintro e wz ⟨v, rfl, hv, hbz⟩
  have HVV := Lib.hid hv
  have HBZ := Lib.hid (HP.out.trans (hbz.mono HP.out.size))
  clear hv hbz
  go_wp2_with fail
  go_ret
  exact ⟨v, rfl, HVV.out.mono (fun i _ h => Nat.le_trans HP.out.size h), HT.out.below HBZ.out, HBZ.out⟩
set_option maxRecDepth 100000 in
set_option maxHeartbeats 1000000 in
theorem add_there (w : World) (g b : Nat) (server : ByteArray) (most : Int) (l : List En) (k room by_ : ByteArray) (ht : Tab w g b server most l) (hk : k.size < 4294967281) (hr : room.size < 4294967281) (hb : by_.size < 4294967281) (hm : Mx w) (h1 : isB 3 k.data.toList = true) (h2 : isB 1 room.data.toList = true) (h3 : isB 2 by_.data.toList = true) (h4 : ((ofL (ofB k.data.toList)).toList == server.toList) = true) (x : En) (h5 : getE l k = some x) :
    Calls Tryz.prog 24 #[.pointer (some ⟨g, 0, none⟩), .string k, .string room, .string by_] w fun e w' => e = .returned (.iface 67 (.int .i64 15)) ∧ Tab w' g b server most l ∧ Below w.heap.size w w' := by
  have HT := Lib.hid ht
  have HM := Lib.hid hm
  have hpos := hm.pos
  have hkm : k.size ≤ maxLen := by unfold maxLen; omega
  have hgl := blk_lt ht.blk
  have k2 := cell_at (j := 2) ht.blk rfl
  have HNE := Lib.hid ht.ne
  have HV := Lib.hid (show (getS (ents l) k).getD (.agg enZ.cells) = .agg (x).cells by rw [ents_get, h5]; rfl)
  have HOK := Lib.hid (show (getS (ents l) k).isSome = true by rw [ents_get, h5]; rfl)
  have HI1 := Lib.hid (fun (W : World) (h : Below w.heap.size w W) => (show Calls Tryz.prog 27 #[.int .i64 3, .string k] W fun e wq => e = .returned (.bool (isB 3 k.data.toList)) ∧ Below W.heap.size W wq from is_calls W 3 k (by omega) hk (hm.below h hpos)))
  rw [h1] at HI1
  clear h1
  have HI2 := Lib.hid (fun (W : World) (h : Below w.heap.size w W) => (show Calls Tryz.prog 27 #[.int .i64 1, .string room] W fun e wq => e = .returned (.bool (isB 1 room.data.toList)) ∧ Below W.heap.size W wq from is_calls W 1 room (by omega) hr (hm.below h hpos)))
  rw [h2] at HI2
  clear h2
  have HI3 := Lib.hid (fun (W : World) (h : Below w.heap.size w W) => (show Calls Tryz.prog 27 #[.int .i64 2, .string by_] W fun e wq => e = .returned (.bool (isB 2 by_.data.toList)) ∧ Below W.heap.size W wq from is_calls W 2 by_ (by omega) hb (hm.below h hpos)))
  rw [h3] at HI3
  clear h3
  have HOF := Lib.hid (fun (W : World) (h : Below w.heap.size w W) => of_calls W k hk (hm.below h hpos))
  generalize ofL (ofB k.data.toList) = host at *
  have H5 := Lib.hid h5
  clear h5
  have HEL := Lib.hid (ents_length l)
  clear ht hm
  go_enter Tryz.func24, Tryz.ntmps24
  go_wp2_with (at_lookup; refine lookupS_ok _ rfl _ _ 78 rfl 9 49 Tryz.underlying9 Tryz.underlying78 _ (zeroEn _) b (ents l) rfl HT.out.mp k rfl hkm _ true HV.out HOK.out ?_)
  have HB0 := Lib.hid (show Below w.heap.size w (w.alloc (.cells #[.string (x).a, .string (x).r, .string (x).b] 49)) from (Below.refl _ _).alloc (Nat.le_refl _) _)
  with_reducible refine (HI1.out _ HB0.out).mono ?_
  rintro e w1 ⟨rfl, hb1⟩
  have HB1 := Lib.hid (HB0.out.trans (hb1.mono HB0.out.size))
  clear hb1 HI1
  go_wp2_with fail
  with_reducible refine (HI2.out _ HB1.out).mono ?_
  rintro e w2 ⟨rfl, hb2⟩
  have HB2 := Lib.hid (HB1.out.trans (hb2.mono HB1.out.size))
  clear hb2 HI2
  go_wp2_with fail
  with_reducible refine (HI3.out _ HB2.out).mono ?_
  rintro e w3 ⟨rfl, hb3⟩
  have HB3 := Lib.hid (HB2.out.trans (hb3.mono HB2.out.size))
  clear hb3 HI3
  go_wp2_with fail
  have hgw := Nat.lt_of_lt_of_le hgl HB3.out.size
  have fp0 : ∀ p : BelW w3, p.world.cell? ⟨g, 0, none⟩ = some (.string server) := fun p => (p.h.cell (p := ⟨g, 0, none⟩) hgw).trans (cell_at (HT.out.below HB3.out).blk rfl)
  refine wp_region_quiet_bel (by kernel_rfl) (by kernel_rfl) ?_
  repeat (quiet_step (with_reducible exact Calls.bel_of (HOF.out _ (HB3.out.trans ((BelW.h _).mono HB3.out.size)))))
  refine wpQuiet_nil ?_
  intro _ hw'
  obtain ⟨p, rfl⟩ := hw'
  have HP := Lib.hid (HB3.out.trans (p.h.mono HB3.out.size))
  obtain ⟨w4, hw4⟩ : ∃ w4, w4 = p.world := ⟨_, rfl⟩
  rw [← hw4] at HP
  rw [← hw4]
  clear fp0 HOF hw4
  have HT4 := Lib.hid (HT.out.below HP.out)
  have k2 := cell_at (j := 2) HT4.out.blk rfl
  have k1 := cell_at (j := 1) HT4.out.blk rfl
  have hg4 := blk_lt HT4.out.blk
  go_wp2_with fail
  go_ret
  exact ⟨rfl, HT4.out, HP.out⟩
set_option maxRecDepth 100000 in
set_option maxHeartbeats 1000000 in
theorem add_full (w : World) (g b : Nat) (server : ByteArray) (most : Int) (l : List En) (k room by_ : ByteArray) (ht : Tab w g b server most l) (hk : k.size < 4294967281) (hr : room.size < 4294967281) (hb : by_.size < 4294967281) (hm : Mx w) (h1 : isB 3 k.data.toList = true) (h2 : isB 1 room.data.toList = true) (h3 : isB 2 by_.data.toList = true) (h4 : ((ofL (ofB k.data.toList)).toList == server.toList) = true) (h5 : getE l k = none) (h6 : most ≤ l.length) :
    Calls Tryz.prog 24 #[.pointer (some ⟨g, 0, none⟩), .string k, .string room, .string by_] w fun e w' => e = .returned (.iface 67 (.int .i64 14)) ∧ Tab w' g b server most l ∧ Below w.heap.size w w' := by
  have HT := Lib.hid ht
  have HM := Lib.hid hm
  have hpos := hm.pos
  have hkm : k.size ≤ maxLen := by unfold maxLen; omega
  have hgl := blk_lt ht.blk
  have k2 := cell_at (j := 2) ht.blk rfl
  have HNE := Lib.hid ht.ne
  have HV := Lib.hid (show (getS (ents l) k).getD (.agg enZ.cells) = .agg (enZ).cells by rw [ents_get, h5]; rfl)
  have HOK := Lib.hid (show (getS (ents l) k).isSome = false by rw [ents_get, h5]; rfl)
  have HI1 := Lib.hid (fun (W : World) (h : Below w.heap.size w W) => (show Calls Tryz.prog 27 #[.int .i64 3, .string k] W fun e wq => e = .returned (.bool (isB 3 k.data.toList)) ∧ Below W.heap.size W wq from is_calls W 3 k (by omega) hk (hm.below h hpos)))
  rw [h1] at HI1
  clear h1
  have HI2 := Lib.hid (fun (W : World) (h : Below w.heap.size w W) => (show Calls Tryz.prog 27 #[.int .i64 1, .string room] W fun e wq => e = .returned (.bool (isB 1 room.data.toList)) ∧ Below W.heap.size W wq from is_calls W 1 room (by omega) hr (hm.below h hpos)))
  rw [h2] at HI2
  clear h2
  have HI3 := Lib.hid (fun (W : World) (h : Below w.heap.size w W) => (show Calls Tryz.prog 27 #[.int .i64 2, .string by_] W fun e wq => e = .returned (.bool (isB 2 by_.data.toList)) ∧ Below W.heap.size W wq from is_calls W 2 by_ (by omega) hb (hm.below h hpos)))
  rw [h3] at HI3
  clear h3
  have HOF := Lib.hid (fun (W : World) (h : Below w.heap.size w W) => of_calls W k hk (hm.below h hpos))
  generalize ofL (ofB k.data.toList) = host at *
  have H5 := Lib.hid h5
  clear h5
  have g6 : decide (most ≤ (l.length : Int)) = true := by simp; omega
  have HEL := Lib.hid (ents_length l)
  clear ht hm
  go_enter Tryz.func24, Tryz.ntmps24
  go_wp2_with (at_lookup; refine lookupS_ok _ rfl _ _ 78 rfl 9 49 Tryz.underlying9 Tryz.underlying78 _ (zeroEn _) b (ents l) rfl HT.out.mp k rfl hkm _ false HV.out HOK.out ?_)
  have HB0 := Lib.hid (show Below w.heap.size w (w.alloc (.cells #[.string (enZ).a, .string (enZ).r, .string (enZ).b] 49)) from (Below.refl _ _).alloc (Nat.le_refl _) _)
  with_reducible refine (HI1.out _ HB0.out).mono ?_
  rintro e w1 ⟨rfl, hb1⟩
  have HB1 := Lib.hid (HB0.out.trans (hb1.mono HB0.out.size))
  clear hb1 HI1
  go_wp2_with fail
  with_reducible refine (HI2.out _ HB1.out).mono ?_
  rintro e w2 ⟨rfl, hb2⟩
  have HB2 := Lib.hid (HB1.out.trans (hb2.mono HB1.out.size))
  clear hb2 HI2
  go_wp2_with fail
  with_reducible refine (HI3.out _ HB2.out).mono ?_
  rintro e w3 ⟨rfl, hb3⟩
  have HB3 := Lib.hid (HB2.out.trans (hb3.mono HB2.out.size))
  clear hb3 HI3
  go_wp2_with fail
  have hgw := Nat.lt_of_lt_of_le hgl HB3.out.size
  have fp0 : ∀ p : BelW w3, p.world.cell? ⟨g, 0, none⟩ = some (.string server) := fun p => (p.h.cell (p := ⟨g, 0, none⟩) hgw).trans (cell_at (HT.out.below HB3.out).blk rfl)
  refine wp_region_quiet_bel (by kernel_rfl) (by kernel_rfl) ?_
  repeat (quiet_step (with_reducible exact Calls.bel_of (HOF.out _ (HB3.out.trans ((BelW.h _).mono HB3.out.size)))))
  refine wpQuiet_nil ?_
  intro _ hw'
  obtain ⟨p, rfl⟩ := hw'
  have HP := Lib.hid (HB3.out.trans (p.h.mono HB3.out.size))
  obtain ⟨w4, hw4⟩ : ∃ w4, w4 = p.world := ⟨_, rfl⟩
  rw [← hw4] at HP
  rw [← hw4]
  clear fp0 HOF hw4
  have HT4 := Lib.hid (HT.out.below HP.out)
  have k2 := cell_at (j := 2) HT4.out.blk rfl
  have k1 := cell_at (j := 1) HT4.out.blk rfl
  have hg4 := blk_lt HT4.out.blk
  go_wp2_with fail
  have hb4 := HT4.out.mp.lt
  have fq1 : ∀ p : BelW w4, p.world.cell? ⟨g, 1, none⟩ = some (.int .i64 most) := fun p => (p.h.cell (p := ⟨g, 1, none⟩) hg4).trans (cell_at HT4.out.blk rfl)
  have fq2 : ∀ p : BelW w4, p.world.cell? ⟨g, 2, none⟩ = some (.map (some b)) := fun p => (p.h.cell (p := ⟨g, 2, none⟩) hg4).trans (cell_at HT4.out.blk rfl)
  have fql : ∀ p : BelW w4, (Builtin.len_ #[78] 3 #[.map (some b)]).run Tryz.prog p.world = .ok (.int .i64 l.length) p.world := fun p => by
    have := World.ownsMap.len (H := Value) (HT4.out.mp.below p.h hb4) Tryz.underlying78 3
    rw [MD_size, HEL.out] at this
    exact this
  refine wp_region_quiet_bel (by kernel_rfl) (by kernel_rfl) ?_
  repeat (quiet_step (fail))
  refine wpQuiet_nil ?_
  intro _ hw'
  obtain ⟨p, rfl⟩ := hw'
  have HP2 := Lib.hid (HP.out.trans (p.h.mono HP.out.size))
  obtain ⟨w5, hw5⟩ : ∃ w5, w5 = p.world := ⟨_, rfl⟩
  rw [← hw5] at HP2
  rw [← hw5]
  clear fq1 fq2 fql hw5
  have HT5 := Lib.hid (HT.out.below HP2.out)
  have k2 := cell_at (j := 2) HT5.out.blk rfl
  have hg5 := blk_lt HT5.out.blk
  go_wp2_with fail
  go_ret
  exact ⟨rfl, HT5.out, HP2.out⟩
set_option maxRecDepth 100000 in
set_option maxHeartbeats 1000000 in
theorem add_ok (w : World) (g b : Nat) (server : ByteArray) (most : Int) (l : List En) (k room by_ : ByteArray) (ht : Tab w g b server most l) (hk : k.size < 4294967281) (hr : room.size < 4294967281) (hb : by_.size < 4294967281) (hm : Mx w) (h1 : isB 3 k.data.toList = true) (h2 : isB 1 room.data.toList = true) (h3 : isB 2 by_.data.toList = true) (h4 : ((ofL (ofB k.data.toList)).toList == server.toList) = true) (h5 : getE l k = none) (h6 : (l.length : Int) < most) (h7 : l.length < maxLen) :
    Calls Tryz.prog 24 #[.pointer (some ⟨g, 0, none⟩), .string k, .string room, .string by_] w fun e w' => e = .returned .nilIface ∧ Tab w' g b server most (insE ⟨k, room, by_⟩ l) ∧ Fr (fun i => i = b) w w' := by
  have HT := Lib.hid ht
  have HM := Lib.hid hm
  have hpos := hm.pos
  have hkm : k.size ≤ maxLen := by unfold maxLen; omega
  have hgl := blk_lt ht.blk
  have k2 := cell_at (j := 2) ht.blk rfl
  have HNE := Lib.hid ht.ne
  have HV := Lib.hid (show (getS (ents l) k).getD (.agg enZ.cells) = .agg (enZ).cells by rw [ents_get, h5]; rfl)
  have HOK := Lib.hid (show (getS (ents l) k).isSome = false by rw [ents_get, h5]; rfl)
  have HI1 := Lib.hid (fun (W : World) (h : Below w.heap.size w W) => (show Calls Tryz.prog 27 #[.int .i64 3, .string k] W fun e wq => e = .returned (.bool (isB 3 k.data.toList)) ∧ Below W.heap.size W wq from is_calls W 3 k (by omega) hk (hm.below h hpos)))
  rw [h1] at HI1
  clear h1
  have HI2 := Lib.hid (fun (W : World) (h : Below w.heap.size w W) => (show Calls Tryz.prog 27 #[.int .i64 1, .string room] W fun e wq => e = .returned (.bool (isB 1 room.data.toList)) ∧ Below W.heap.size W wq from is_calls W 1 room (by omega) hr (hm.below h hpos)))
  rw [h2] at HI2
  clear h2
  have HI3 := Lib.hid (fun (W : World) (h : Below w.heap.size w W) => (show Calls Tryz.prog 27 #[.int .i64 2, .string by_] W fun e wq => e = .returned (.bool (isB 2 by_.data.toList)) ∧ Below W.heap.size W wq from is_calls W 2 by_ (by omega) hb (hm.below h hpos)))
  rw [h3] at HI3
  clear h3
  have HOF := Lib.hid (fun (W : World) (h : Below w.heap.size w W) => of_calls W k hk (hm.below h hpos))
  generalize ofL (ofB k.data.toList) = host at *
  have H5 := Lib.hid h5
  clear h5
  have g6 : decide (most ≤ (l.length : Int)) = false := by simp; omega
  have H7 := Lib.hid h7
  clear h7
  have HEL := Lib.hid (ents_length l)
  clear ht hm
  go_enter Tryz.func24, Tryz.ntmps24
  go_wp2_with (at_lookup; refine lookupS_ok _ rfl _ _ 78 rfl 9 49 Tryz.underlying9 Tryz.underlying78 _ (zeroEn _) b (ents l) rfl HT.out.mp k rfl hkm _ false HV.out HOK.out ?_)
  have HB0 := Lib.hid (show Below w.heap.size w (w.alloc (.cells #[.string (enZ).a, .string (enZ).r, .string (enZ).b] 49)) from (Below.refl _ _).alloc (Nat.le_refl _) _)
  with_reducible refine (HI1.out _ HB0.out).mono ?_
  rintro e w1 ⟨rfl, hb1⟩
  have HB1 := Lib.hid (HB0.out.trans (hb1.mono HB0.out.size))
  clear hb1 HI1
  go_wp2_with fail
  with_reducible refine (HI2.out _ HB1.out).mono ?_
  rintro e w2 ⟨rfl, hb2⟩
  have HB2 := Lib.hid (HB1.out.trans (hb2.mono HB1.out.size))
  clear hb2 HI2
  go_wp2_with fail
  with_reducible refine (HI3.out _ HB2.out).mono ?_
  rintro e w3 ⟨rfl, hb3⟩
  have HB3 := Lib.hid (HB2.out.trans (hb3.mono HB2.out.size))
  clear hb3 HI3
  go_wp2_with fail
  have hgw := Nat.lt_of_lt_of_le hgl HB3.out.size
  have fp0 : ∀ p : BelW w3, p.world.cell? ⟨g, 0, none⟩ = some (.string server) := fun p => (p.h.cell (p := ⟨g, 0, none⟩) hgw).trans (cell_at (HT.out.below HB3.out).blk rfl)
  refine wp_region_quiet_bel (by kernel_rfl) (by kernel_rfl) ?_
  repeat (quiet_step (with_reducible exact Calls.bel_of (HOF.out _ (HB3.out.trans ((BelW.h _).mono HB3.out.size)))))
  refine wpQuiet_nil ?_
  intro _ hw'
  obtain ⟨p, rfl⟩ := hw'
  have HP := Lib.hid (HB3.out.trans (p.h.mono HB3.out.size))
  obtain ⟨w4, hw4⟩ : ∃ w4, w4 = p.world := ⟨_, rfl⟩
  rw [← hw4] at HP
  rw [← hw4]
  clear fp0 HOF hw4
  have HT4 := Lib.hid (HT.out.below HP.out)
  have k2 := cell_at (j := 2) HT4.out.blk rfl
  have k1 := cell_at (j := 1) HT4.out.blk rfl
  have hg4 := blk_lt HT4.out.blk
  go_wp2_with fail
  have hb4 := HT4.out.mp.lt
  have fq1 : ∀ p : BelW w4, p.world.cell? ⟨g, 1, none⟩ = some (.int .i64 most) := fun p => (p.h.cell (p := ⟨g, 1, none⟩) hg4).trans (cell_at HT4.out.blk rfl)
  have fq2 : ∀ p : BelW w4, p.world.cell? ⟨g, 2, none⟩ = some (.map (some b)) := fun p => (p.h.cell (p := ⟨g, 2, none⟩) hg4).trans (cell_at HT4.out.blk rfl)
  have fql : ∀ p : BelW w4, (Builtin.len_ #[78] 3 #[.map (some b)]).run Tryz.prog p.world = .ok (.int .i64 l.length) p.world := fun p => by
    have := World.ownsMap.len (H := Value) (HT4.out.mp.below p.h hb4) Tryz.underlying78 3
    rw [MD_size, HEL.out] at this
    exact this
  refine wp_region_quiet_bel (by kernel_rfl) (by kernel_rfl) ?_
  repeat (quiet_step (fail))
  refine wpQuiet_nil ?_
  intro _ hw'
  obtain ⟨p, rfl⟩ := hw'
  have HP2 := Lib.hid (HP.out.trans (p.h.mono HP.out.size))
  obtain ⟨w5, hw5⟩ : ∃ w5, w5 = p.world := ⟨_, rfl⟩
  rw [← hw5] at HP2
  rw [← hw5]
  clear fq1 fq2 fql hw5
  have HT5 := Lib.hid (HT.out.below HP2.out)
  have k2 := cell_at (j := 2) HT5.out.blk rfl
  have hg5 := blk_lt HT5.out.blk
  go_wp2_with (at_mapUpdate; refine updateS _ rfl _ _ _ 78 rfl 9 49 Tryz.underlying9 Tryz.underlying78 b (ents l) rfl ?cm ?cn k rfl hkm _ rfl ?_)
  case cm => exact HT5.out.mp
  case cn => rw [HEL.out]; exact H7.out
  intro w6 hm6 hturn
  have HFR := Lib.hid (Fr.of_turned (S := fun i => i = b) (P := Tryz.prog) (kt := 9) HT5.out.mp hturn rfl)
  have HM6 := Lib.hid hm6
  clear hm6 hturn
  go_wp2_with fail
  go_ret
  refine ⟨rfl, ⟨?_, ?_⟩, (Fr.of_below HP2.out).trans HFR.out⟩
  · exact (HFR.out.block g hg5 HNE.out).trans HT5.out.blk
  · rw [← ents_put ⟨k, room, by_⟩ rfl H5.out]; exact HM6.out
end Go.Proofs.YtgnoaeldmpbjmaaGreatDoor
/- Slices and their rows. No program is named. -/
namespace Go.Proofs.YtgnoaeldmpbjmaaGreatDoor
open Go.RowKit

/-- A slice's three words. -/
structure Sl where
  a : Option Addr
  n : Nat
  c : Nat
abbrev Sl.val (s : Sl) : Value := .slice s.a s.n s.c
/-- A slice's row: nothing, or the first cells of a block of which P holds. -/
def RowOf (w : World) (P : Nat → Prop) (E sz : Nat) (s : Sl) (l : List (List Value)) : Prop :=
  s.n = l.length ∧ l.length ≤ 1000000 ∧ ((s = ⟨none, 0, 0⟩ ∧ l = []) ∨ ∃ r, s.a = some ⟨r, 0, none⟩ ∧ s.n ≤ s.c ∧ P r ∧ r < w.heap.size ∧ Rw w E r s.c sz l)
theorem RowOf.same {w w' : World} {P : Nat → Prop} {E sz : Nat} {s : Sl} {l : List (List Value)} (h : RowOf w P E sz s l) (hs : w.heap.size ≤ w'.heap.size) (hb : ∀ g, g < w.heap.size → P g → w'.heap[g]? = w.heap[g]?) : RowOf w' P E sz s l := by
  obtain ⟨h1, h2, h⟩ := h
  refine ⟨h1, h2, ?_⟩
  rcases h with h | ⟨r, h3, h4, h5, h6, h7⟩
  · exact .inl h
  · exact .inr ⟨r, h3, h4, h5, by omega, h7.same (hb r h6 h5)⟩
theorem RowOf.mono {w : World} {P Q : Nat → Prop} {E sz : Nat} {s : Sl} {l : List (List Value)} (h : RowOf w P E sz s l) (hq : ∀ g, g < w.heap.size → P g → Q g) : RowOf w Q E sz s l := by
  obtain ⟨h1, h2, h⟩ := h
  refine ⟨h1, h2, ?_⟩
  rcases h with h | ⟨r, h3, h4, h5, h6, h7⟩
  · exact .inl h
  · exact .inr ⟨r, h3, h4, hq r h6 h5, h6, h7⟩
theorem RowOf.of_own {w : World} {base E sz n : Nat} {v : Value} {l : List (List Value)} (h : w.ownsRow base E sz v n l.flatten) (hl : ∀ c ∈ l, c.length = sz) (hz : 0 < sz) (hm : l.length ≤ 1000000) :
    ∃ s : Sl, v = s.val ∧ RowOf w (fun g => base ≤ g) E sz s l := by
  obtain ⟨hn, h⟩ := Rw.of_own h hl hz
  rcases h with ⟨rfl, rfl⟩ | ⟨r, cap, rfl, hb, hr, hrw⟩
  · exact ⟨⟨none, 0, 0⟩, by first | (simp [Sl.val]; done) | (simp [Sl.val]; simpa using hn), rfl, by simp, .inl ⟨rfl, rfl⟩⟩
  · exact ⟨⟨some ⟨r, 0, none⟩, n, cap⟩, rfl, hn, hm, .inr ⟨r, rfl, by show n ≤ cap; rw [hn]; exact hrw.choose_spec.2.2.1, hb, hr, hrw⟩⟩
theorem RowOf.at {w : World} {P : Nat → Prop} {E sz : Nat} {s : Sl} {l : List (List Value)} (h : RowOf w P E sz s l) {r : Nat} (ha : s.a = some ⟨r, 0, none⟩) : P r ∧ r < w.heap.size ∧ Rw w E r s.c sz l := by
  obtain ⟨_, _, ⟨rfl, _⟩ | ⟨r', h1, _, h3, h4, h5⟩⟩ := h
  · cases ha
  · rw [h1] at ha
    injection ha with ha
    injection ha with ha
    subst ha
    exact ⟨h3, h4, h5⟩
theorem RowOf.kept {w w' : World} {P : Nat → Prop} {E sz : Nat} {s : Sl} {l : List (List Value)} (h : RowOf w P E sz s l) (hs : w.heap.size ≤ w'.heap.size) (hb : ∀ g, g < w.heap.size → s.a = some ⟨g, 0, none⟩ → w'.heap[g]? = w.heap[g]?) : RowOf w' P E sz s l := by
  obtain ⟨h1, h2, h⟩ := h
  refine ⟨h1, h2, ?_⟩
  rcases h with h | ⟨r, h3, h4, h5, h6, h7⟩
  · exact .inl h
  · exact .inr ⟨r, h3, h4, h5, by omega, h7.same (hb r h6 h3)⟩
theorem RowOf.both {w : World} {P : Nat → Prop} {E sz : Nat} {s : Sl} {l : List (List Value)} (h : RowOf w P E sz s l) {Q : Nat → Prop} (hq : ∀ r, s.a = some ⟨r, 0, none⟩ → P r → Q r) : RowOf w Q E sz s l := by
  obtain ⟨h1, h2, h⟩ := h
  refine ⟨h1, h2, ?_⟩
  rcases h with h | ⟨r, h3, h4, h5, h6, h7⟩
  · exact .inl h
  · exact .inr ⟨r, h3, h4, hq r h3 h5, h6, h7⟩
end Go.Proofs.YtgnoaeldmpbjmaaGreatDoor
/- alias: all of a table, by aliases; a room's. -/
set_option linter.unusedVariables false
namespace Go.Proofs.YtgnoaeldmpbjmaaGreatDoor
open Go.RowKit Go.Maps Go.Sort Go.Shelf

abbrev seqE (Bm : Nat) : Value := .func (.func 72) #[] #[.pointer (some ⟨Bm, 0, none⟩)]
theorem values_calls (w : World) (b : Nat) : Calls Tryz.prog 45 #[.map (some b)] w fun e w' => e = .returned (seqE w.heap.size) ∧ w' = w.alloc (.cells #[.map (some b)] 78) :=
  callsIn_wide.1 (values_in Fence.wide 6 trivial rfl (some b) w)
/-- slices.Collect. -/
theorem collect_calls (w : World) (Bm b : Nat) (l : List En) (hl : RiseE l) (hn : l.length ≤ 1000000) (hBm : Bm < w.heap.size) (hm : w.cell? ⟨Bm, 0, none⟩ = some (.map (some b))) (hmp : MapS w Tryz.prog 9 b (ents l)) :
    Calls Tryz.prog 70 #[seqE Bm] w fun e w' => ∃ (s : Sl) (xs : List En), e = .returned s.val ∧ xs.Perm l ∧ RowOf w' (fun g => w.heap.size ≤ g) 49 3 s (rowsE xs) ∧ Below w.heap.size w w' := by
  have HA := Lib.hid (callsIn_wide.1 (appendSeq_in Fence.wide 6 trivial trivial rfl (by omega) Bm b _ _ w hBm hm (ownsE hmp) (by rw [MD_size, ents_length]; exact hn)))
  have HL := Lib.hid hl
  have HN := Lib.hid hn
  clear hl hn hm hmp
  go_enter Tryz.func70, Tryz.ntmps70
  go_wp2_with fail
  refine HA.out.mono ?_
  rintro e w1 ⟨v, xs, ps, rfl, hps, hxs, hrow, hb⟩
  have hp := gathered HL.out hps
  rw [← hxs] at hp
  obtain ⟨s, rfl, hr⟩ := RowOf.of_own (l := rowsE xs) hrow (fun c hc => by obtain ⟨x, _, rfl⟩ := List.mem_map.1 hc; rfl) (by decide) (by simp only [List.length_map]; rw [hp.length_eq]; exact HN.out)
  have HP := Lib.hid hp
  have HR := Lib.hid hr
  have HB := Lib.hid hb
  clear hps hxs hrow hp hr hb HA
  go_wp2_with fail
  go_ret
  exact ⟨s, xs, rfl, HP.out, HR.out, HB.out⟩
/-- slices.SortedFunc. -/
theorem sortedFunc_calls (w : World) (Bm b : Nat) (l : List En) (hl : RiseE l) (hn : l.length ≤ 1000000) (hBm : Bm < w.heap.size) (hm : w.cell? ⟨Bm, 0, none⟩ = some (.map (some b))) (hmp : MapS w Tryz.prog 9 b (ents l)) :
    Calls Tryz.prog 44 #[seqE Bm, .func (.func 46) #[] #[]] w fun e w' => ∃ s : Sl, e = .returned s.val ∧ RowOf w' (fun g => w.heap.size ≤ g) 49 3 s (rowsE l) ∧ Below w.heap.size w w' := by
  have HA := Lib.hid (collect_calls w Bm b l hl hn hBm hm hmp)
  have HL := Lib.hid hl
  have HN := Lib.hid hn
  clear hl hn hm hmp
  go_enter Tryz.func44, Tryz.ntmps44
  go_wp2_with fail
  refine HA.out.mono ?_
  rintro e w1 ⟨s, xs, rfl, hp, hr, hb⟩
  have HP := Lib.hid hp
  have HR := Lib.hid hr
  have HB := Lib.hid hb
  have hxl : xs.length ≤ 1000000 := by rw [hp.length_eq]; exact HN.out
  clear hp hr hb HA
  obtain ⟨A, n, c⟩ := s
  simp only [Sl.val]
  rcases HR.out.2.2 with ⟨hs, hnil⟩ | ⟨r, ha, hcap, hP, hlt, hrw⟩
  · injection hs with hs1 hs2 hs3
    subst hs1 hs2 hs3
    have hx0 : xs = [] := by simpa using hnil
    subst hx0
    have hl0 : l = [] := List.nil_perm.1 HP.out
    have HL0 := Lib.hid hl0
    clear hnil hl0 hxl
    go_wp2_with fail
    refine (sortE_none w1 none 0 _).mono ?_
    rintro e w2 ⟨rfl, rfl⟩
    go_wp2_with fail
    go_ret
    exact ⟨⟨none, 0, 0⟩, rfl, by rw [HL0.out]; exact HR.out, HB.out⟩
  · have hn' : n = xs.length := by have := HR.out.1; simpa using this
    dsimp only at ha
    subst ha hn'
    have HS := Lib.hid (sortE_calls w1 r c xs hxl hrw)
    have HPr := Lib.hid hP
    have HCAP := Lib.hid hcap
    clear hrw hP hcap hxl
    go_wp2_with fail
    refine HS.out.mono ?_
    rintro e w2 ⟨rfl, l', hp', hs', hrw', hg'⟩
    have hll : l' = l := sorted_is HL.out (hp'.trans HP.out) hs'
    subst hll
    have HRW := Lib.hid hrw'
    have HG := Lib.hid hg'
    have HPL := Lib.hid hp'
    clear hs' hp' hrw' hg' HS
    go_wp2_with fail
    go_ret
    refine ⟨⟨some ⟨r, 0, none⟩, xs.length, c⟩, rfl, ⟨?_, ?_, .inr ⟨r, rfl, HCAP.out, HPr.out, HRW.out.lt, HRW.out⟩⟩, ?_⟩
    · simp only [List.length_map]; exact HPL.out.length_eq.symm
    · simp only [List.length_map]; exact HN.out
    · exact HB.out.grown HG.out HB.out.size (fun j hj => by cases hj; exact HPr.out)
theorem allE_calls (w : World) (g b : Nat) (server : ByteArray) (most : Int) (l : List En) (ht : Tab w g b server most l) (hl : RiseE l) (hn : l.length ≤ 1000000) :
    Calls Tryz.prog 21 #[.pointer (some ⟨g, 0, none⟩)] w fun e w' => ∃ s : Sl, e = .returned s.val ∧ RowOf w' (fun g => w.heap.size ≤ g) 49 3 s (rowsE l) ∧ Below w.heap.size w w' := by
  have hg := blk_lt ht.blk
  have k2 := cell_at (j := 2) ht.blk rfl
  have hb1 : Below w.heap.size w (w.alloc (.cells #[.map (some b)] 78)) := (Below.refl _ _).alloc (Nat.le_refl _) _
  have HS := Lib.hid (sortedFunc_calls (w.alloc (.cells #[.map (some b)] 78)) w.heap.size b l hl hn (by simp) (cell_new _ _ _ _ _ _ rfl) (ht.mp.same (heap_old_at _ _ _ ht.mp.lt)))
  have HB1 := Lib.hid hb1
  clear ht hl hn hb1
  go_enter Tryz.func21, Tryz.ntmps21
  go_wp2_with fail
  refine (values_calls w b).mono ?_
  rintro e w1 ⟨rfl, rfl⟩
  go_wp2_with fail
  refine HS.out.mono ?_
  rintro e w2 ⟨s, rfl, hr, hb⟩
  have HR := Lib.hid hr
  have HB := Lib.hid (HB1.out.trans (hb.mono HB1.out.size))
  clear hr hb HS
  go_wp2_with fail
  go_ret
  exact ⟨s, rfl, HR.out.mono (fun i _ h => by simp at h; omega), HB.out⟩

theorem infoStr : (Tryz.prog.info? 9).map (fun i => (i.zero, i.size, i.bytes)) = some (some (.string ⟨#[]⟩), 1, 16) := by kernel_rfl
abbrev srows (l : List ByteArray) : List (List Value) := l.map fun x => [.string x]
def ofRoom (room : ByteArray) (l : List En) : List ByteArray := (l.filter fun x => sameB x.r room).map (·.a)
set_option maxRecDepth 100000 in
set_option maxHeartbeats 1600000 in
theorem ofE_calls (w : World) (g b : Nat) (server : ByteArray) (most : Int) (l : List En) (room : ByteArray) (ht : Tab w g b server most l) (hl : RiseE l) (hn : l.length ≤ 1000000) :
    Calls Tryz.prog 22 #[.pointer (some ⟨g, 0, none⟩), .string room] w fun e w' => ∃ s : Sl, e = .returned s.val ∧ RowOf w' (fun g => w.heap.size ≤ g) 9 1 s (srows (ofRoom room l)) ∧ Below w.heap.size w w' := by
  have HS := Lib.hid (allE_calls w g b server most l ht hl hn)
  have HN := Lib.hid hn
  obtain ⟨i0, hi, hz0, hz1, hz2⟩ := info_parts infoStr
  have HI := Lib.hid hi
  have HZ0 := Lib.hid hz0
  have HZ1 := Lib.hid hz1
  have HZ2 := Lib.hid hz2
  clear ht hl hn hi hz0 hz1 hz2
  go_enter Tryz.func22, Tryz.ntmps22
  go_wp2_with fail
  refine HS.out.mono ?_
  rintro e w1 ⟨s, rfl, hr, hb⟩
  have HR := Lib.hid hr
  have HB := Lib.hid hb
  have hnl : s.n = l.length := by have := hr.1; simpa using this
  obtain ⟨A, n, c⟩ := s
  dsimp only at hnl
  subst hnl
  clear hr hb HS
  simp only [Sl.val]
  have hll := HN.out
  go_wp2_with fail
  go_loopw [5, 11] (fun c5 i wr => ∃ k : Nat, k ≤ l.length ∧ i = .int .i64 k ∧ wr.ownsRow w1.heap.size 9 1 c5 (ofRoom room (l.take k)).length (srows (ofRoom room (l.take k))).flatten ∧ Below w1.heap.size w1 wr) (fun _ i _ => l.length - (intOf i).toNat)
  case atStart => exact ⟨0, by omega, rfl, ⟨rfl, .inl ⟨rfl, rfl⟩⟩, Below.refl _ _⟩
  case round =>
    obtain ⟨k, hk, rfl, hown, hb⟩ := hrel
    have HOWN := Lib.hid hown
    have HB1 := Lib.hid hb
    have hbs := hb.size
    by_cases hlt : k < l.length
    · have hy : l[k]? = some l[k] := List.getElem?_eq_getElem hlt
      have hts : l.take (k + 1) = l.take k ++ [l[k]] := by rw [List.take_succ_eq_append_getElem hlt]
      generalize l[k] = y at hy hts
      have hrow := HR.out.same hb.size (fun i hi _ => hb.block i hi)
      obtain ⟨r, ha⟩ : ∃ r, A = some ⟨r, 0, none⟩ := by
        rcases hrow.2.2 with ⟨_, hnil⟩ | ⟨r, h1, _⟩
        · have := congrArg List.length hnil; simp at this; subst this; simp at hlt
        · exact ⟨r, h1⟩
      obtain ⟨_, hrl, hrw⟩ := hrow.at ha
      have hyc : (rowsE l)[k]? = some y.cells.toList := by simp [hy]
      have c0 : wr.cell? ⟨r, k * 3, none⟩ = some (.string y.a) := hrw.cell (d := 0) hyc rfl
      have c1 : wr.cell? ⟨r, k * 3 + 1, none⟩ = some (.string y.r) := hrw.cell (d := 1) hyc rfl
      have c2 : wr.cell? ⟨r, k * 3 + 2, none⟩ = some (.string y.b) := hrw.cell (d := 2) hyc rfl
      have HTS := Lib.hid hts
      have hlen : (ofRoom room (l.take k)).length ≤ k := by
        unfold ofRoom
        rw [List.length_map]
        exact Nat.le_trans (List.length_filter_le _ _) (by simp; omega)
      subst ha
      clear hy hts hrow hrw hyc hown hb
      cases hsame : (y.r.toList == room.toList) with
      | false =>
        have HF := Lib.hid (show ofRoom room (l.take (k + 1)) = ofRoom room (l.take k) by rw [HTS.out]; simp [ofRoom, sameB, hsame])
        go_wp2_with fail
        refine ⟨⟨k + 1, by omega, by go_num, by rw [HF.out]; exact HOWN.out.alloc _, HB1.out.alloc HB1.out.size _⟩, by simp [intOf]; omega⟩
      | true =>
        have HF := Lib.hid (show ofRoom room (l.take (k + 1)) = ofRoom room (l.take k) ++ [y.a] by rw [HTS.out]; simp [ofRoom, sameB, hsame])
        go_wp2_with (at_builtin; refine wpList_append_own _ rfl _ _ 62 rfl w1.heap.size 9 i0 _ 1 16 Tryz.underlying62 HI.out HZ0.out HZ1.out HZ2.out rfl (by decide) _ (ofRoom room (l.take k)).length (srows (ofRoom room (l.take k))).flatten rfl ((HOWN.out.alloc _).alloc _) ⟨wr.heap.size + 1, 0, none⟩ 1 1 [.string y.a] rfl rfl ?c1 ?c2 ?c3 ?c4 ?c5 ?_)
        case c1 =>
          intro j u hj
          exact World.news_of_block (B := wr.heap.size + 1) (cs := #[.string y.a]) (t := 9) (fr := (0, 0)) (heap_new_at _ _ _ (by simp)) j u hj
        case c2 => intro u hu; simp at hu; subst hu; rfl
        case c3 => unfold maxLen; omega
        case c4 => omega
        case c5 => simp; omega
        intro v' w4 hown4 hg4 _
        have HOWN4 := Lib.hid hown4
        have HB4 := Lib.hid (((HB1.out.alloc HB1.out.size (.cells #[.string y.a, .string y.r, .string y.b] 49)).alloc (by simp; omega) (.cells #[.string y.a] 9)).grown hg4 (by simp; omega) (fun j hj => (HOWN.out.lt j hj).1))
        clear hown4 hg4
        go_wp2_with fail
        refine ⟨⟨k + 1, by omega, by go_num, ?_, HB4.out⟩, by simp [intOf]; omega⟩
        rw [HF.out]
        simpa using HOWN4.out
    · obtain rfl : k = l.length := by omega
      rw [List.take_length] at hown
      obtain ⟨s', rfl, hr'⟩ := RowOf.of_own (l := srows (ofRoom room l)) hown (fun c hc => by obtain ⟨x, _, rfl⟩ := List.mem_map.1 hc; rfl) (by decide) (by
        simp only [List.length_map]
        unfold ofRoom
        rw [List.length_map]
        exact Nat.le_trans (List.length_filter_le _ _) hll)
      have HR' := Lib.hid hr'
      clear hown hr' hb HOWN
      go_wp2_with fail
      go_ret
      exact ⟨s', rfl, HR'.out.mono (fun i _ h => Nat.le_trans HB.out.size h), HB.out.trans (HB1.out.mono HB.out.size)⟩
end Go.Proofs.YtgnoaeldmpbjmaaGreatDoor
/- The document's ident (the reference's texts): the same plain law as ident's. -/
set_option linter.unusedVariables false
namespace Go.Proofs.YtgnoaeldmpbjmaaGreatDoor
open Go.RowKit

def rinB (l : List UInt8) (c : UInt8) : Bool := l.any fun x => x == c
theorem byte_at (l : ByteArray) (k : Nat) (h : k < l.size) : l.data.toList[k]? = some l[k] := by
  have h2 : k < l.data.size := h
  rw [Array.getElem?_toList, Array.getElem?_eq_getElem h2]
  rfl
theorem take_next (l : ByteArray) (k : Nat) (h : k < l.size) : l.data.toList.take (k + 1) = l.data.toList.take k ++ [l[k]] := by
  rw [List.take_add_one, byte_at l k h]; simp
theorem u8_beq (a b : UInt8) : ((a.toNat : Int) == (b.toNat : Int)) = (a == b) := by
  rw [Bool.eq_iff_iff]
  simp only [beq_iff_eq]
  constructor
  · intro h
    exact UInt8.toNat_inj.1 (by omega)
  · rintro rfl; rfl
theorem rin_calls (w : World) (l : ByteArray) (c : UInt8) (hl : l.size ≤ 1000000) :
    Calls Tryz.prog 83 #[.string l, .int .u8 c.toNat] w fun e w' => e = .returned (.bool (rinB l.data.toList c)) ∧ w' = w := by
  have HL := Lib.hid (size_list l)
  go_enter Tryz.func83, Tryz.ntmps83
  go_wp2_with fail
  go_loopw [8] (fun i wr => ∃ k : Nat, k ≤ l.size ∧ i = .int .i64 k ∧ wr = w ∧ rinB (l.data.toList.take k) c = false) (fun i _ => l.size - (intOf i).toNat)
  case atStart => exact ⟨0, by omega, rfl, rfl, rfl⟩
  case round =>
    obtain ⟨k, hk, rfl, rfl, hno⟩ := hrel
    have HNO := Lib.hid hno
    clear hno
    by_cases hlt : k < l.size
    · have hb := u8_beq l[k] c
      have HT := Lib.hid (take_next l k hlt)
      have HM := Lib.hid (List.mem_of_getElem? (byte_at l k hlt))
      cases hc : (l[k] == c) with
      | true =>
        rw [hc] at hb
        have HC := Lib.hid hc
        clear hc
        go_wp2_with fail
        go_ret
        refine ⟨?_, rfl⟩
        have : rinB l.data.toList c = true := List.any_eq_true.2 ⟨l[k], HM.out, HC.out⟩
        rw [this]
        rfl
      | false =>
        rw [hc] at hb
        have HC := Lib.hid hc
        clear hc
        go_wp2_with fail
        exact ⟨⟨k + 1, by omega, by go_num, (by first | rfl | trivial), by rw [HT.out]; unfold rinB at HNO ⊢; rw [List.any_append, HNO.out]; simp [HC.out]⟩, by simp [intOf]; omega⟩
    · obtain rfl : k = l.size := by omega
      go_wp2_with fail
      go_ret
      refine ⟨?_, rfl⟩
      have := HNO.out
      rw [List.take_of_length_le (by rw [HL.out]; exact Nat.le_refl _)] at this
      rw [this]
      rfl

def rallB (l : List UInt8) (least most : Nat) (s : List UInt8) : Bool := (decide (least ≤ s.length) && decide (s.length ≤ most)) && s.all (rinB l)
theorem rall_calls (w : World) (s l : ByteArray) (least most : Nat) (hs : s.size ≤ 9223372036854775807) (hl : l.size ≤ 1000000) (h1 : least < 1000) (h2 : most < 1000) :
    Calls Tryz.prog 56 #[.string s, .int .i64 least, .int .i64 most, .string l] w fun e w' => e = .returned (.bool (rallB l.data.toList least most s.data.toList)) ∧ w' = w := by
  have HI := Lib.hid (fun c => rin_calls w l c hl)
  have HL := Lib.hid (size_list s)
  have HR := Lib.hid (show rallB l.data.toList least most s.data.toList = ((decide (least ≤ s.data.toList.length) && decide (s.data.toList.length ≤ most)) && s.data.toList.all (rinB l.data.toList)) from rfl)
  by_cases hle : least ≤ s.size
  · by_cases hmo : s.size ≤ most
    · have HD := Lib.hid (show (decide (least ≤ s.size) && decide (s.size ≤ most)) = true by simp [hle, hmo])
      have d1 : decide (s.size < least) = false := by simp [hle]
      have d2 : decide (most < s.size) = false := by simp [hmo]
      clear hle hmo
      go_enter Tryz.func56, Tryz.ntmps56
      go_wp2_with fail
      go_loopw [22] (fun i wr => ∃ k : Nat, k ≤ s.size ∧ i = .int .i64 k ∧ wr = w ∧ (s.data.toList.take k).all (rinB l.data.toList) = true) (fun i _ => s.size - (intOf i).toNat)
      case atStart => exact ⟨0, by omega, rfl, rfl, rfl⟩
      case round =>
        obtain ⟨k, hk, rfl, rfl, hall⟩ := hrel
        have HALL := Lib.hid hall
        clear hall
        by_cases hlt : k < s.size
        · have HT := Lib.hid (take_next s k hlt)
          have HM := Lib.hid (List.mem_of_getElem? (byte_at s k hlt))
          go_wp2_with fail
          have HPK := HI.out s[k]
          generalize s[k] = ck at *
          refine HPK.mono ?_
          rintro e w1 ⟨rfl, rfl⟩
          clear HPK
          cases hp : rinB l.data.toList ck with
          | true =>
            have HP := Lib.hid hp
            clear hp
            go_wp2_with fail
            exact ⟨⟨k + 1, by omega, by go_num, (by first | rfl | trivial), by rw [HT.out, List.all_append, HALL.out]; simp [HP.out]⟩, by simp [intOf]; omega⟩
          | false =>
            have HP := Lib.hid hp
            clear hp
            go_wp2_with fail
            go_ret
            refine ⟨?_, rfl⟩
            have : s.data.toList.all (rinB l.data.toList) = false := List.all_eq_false.2 ⟨ck, HM.out, by rw [HP.out]; simp⟩
            rw [HR.out, this]
            simp
        · obtain rfl : k = s.size := by omega
          go_wp2_with fail
          go_ret
          refine ⟨?_, rfl⟩
          have := HALL.out
          rw [List.take_of_length_le (by rw [HL.out]; exact Nat.le_refl _)] at this
          rw [HR.out, this, HL.out, HD.out]
          rfl
    · go_enter Tryz.func56, Tryz.ntmps56
      go_wp2_with fail
      go_ret
      refine ⟨?_, rfl⟩
      rw [HR.out, HL.out]
      simp [hmo]
  · go_enter Tryz.func56, Tryz.ntmps56
    go_wp2_with fail
    go_ret
    refine ⟨?_, rfl⟩
    rw [HR.out, HL.out]
    simp [hle]

/-- Ahead of the first colon, and behind it. -/
def colonB : List UInt8 → List UInt8 × List UInt8 × Bool
  | [] => ([], [], false)
  | c :: r => if c == 58 then ([], r, true) else (c :: (colonB r).1, (colonB r).2.1, (colonB r).2.2)
theorem colonB_none {l : List UInt8} (h : ∀ x ∈ l, (x == 58) = false) : colonB l = (l, [], false) := by
  induction l with
  | nil => rfl
  | cons c r ih =>
    unfold colonB
    rw [h c (by simp)]
    simp only [Bool.false_eq_true, if_false]
    rw [ih (fun x hx => h x (by simp [hx]))]
theorem colonB_at {a b : List UInt8} {c : UInt8} (h : ∀ x ∈ a, (x == 58) = false) (hc : (c == 58) = true) : colonB (a ++ c :: b) = (a, b, true) := by
  induction a with
  | nil => unfold colonB; simp [hc]
  | cons x r ih =>
    rw [List.cons_append]
    unfold colonB
    rw [h x (by simp)]
    simp only [Bool.false_eq_true, if_false]
    rw [ih (fun x hx => h x (by simp [hx]))]
theorem extract_front (s : ByteArray) (k : Nat) : s.extract 0 k = ofL (s.data.toList.take k) := by
  apply ByteArray.ext
  apply Array.ext'
  simp [ByteArray.data_extract, ofL]
theorem extract_back (s : ByteArray) (k : Nat) : s.extract k s.size = ofL (s.data.toList.drop k) := by
  apply ByteArray.ext
  apply Array.ext'
  have h : s.data.size = s.size := rfl
  simp only [ByteArray.data_extract, ofL, Array.toList_extract, List.extract_eq_take_drop]
  rw [List.take_of_length_le (by rw [List.length_drop, size_list]; exact Nat.le_refl _)]
theorem rcolon_calls (w : World) (s : ByteArray) (hs : s.size ≤ 9223372036854775807) :
    Calls Tryz.prog 55 #[.string s] w fun e w' => e = .returned (.tuple #[.string (ofL (colonB s.data.toList).1), .string (ofL (colonB s.data.toList).2.1), .bool (colonB s.data.toList).2.2]) ∧ Below w.heap.size w w' := by
  have HL := Lib.hid (size_list s)
  go_enter Tryz.func55, Tryz.ntmps55
  go_wp2_with fail
  go_loopw [8] (fun i wr => ∃ k : Nat, k ≤ s.size ∧ i = .int .i64 k ∧ wr = w ∧ ∀ x ∈ s.data.toList.take k, (x == 58) = false) (fun i _ => s.size - (intOf i).toNat)
  case atStart => exact ⟨0, by omega, rfl, rfl, by simp⟩
  case round =>
    obtain ⟨k, hk, rfl, rfl, hno⟩ := hrel
    have HNO := Lib.hid hno
    clear hno
    by_cases hlt : k < s.size
    · have hb : ((s[k].toNat : Int) == 58) = (s[k] == 58) := u8_beq s[k] 58
      have HT := Lib.hid (take_next s k hlt)
      have HB := Lib.hid (byte_at s k hlt)
      cases hc : (s[k] == 58) with
      | true =>
        rw [hc] at hb
        have HC := Lib.hid hc
        clear hc
        go_wp2_with fail
        go_quiet (fail)
        go_wp2_with fail
        refine bodyPost_ret (results_tmp3 rfl _ _ _) rfl ?_
        refine ⟨?_, below_drewN' (Below.refl _ _) _⟩
        have hl : s.data.toList = s.data.toList.take k ++ s[k] :: s.data.toList.drop (k + 1) := by
          have := (List.take_append_drop (k + 1) s.data.toList).symm
          rw [HT.out] at this
          simpa using this
        have h3 := colonB_at (b := s.data.toList.drop (k + 1)) HNO.out HC.out
        rw [← hl] at h3
        rw [h3, ← extract_front, ← extract_back]
        rfl
      | false =>
        rw [hc] at hb
        have HC := Lib.hid hc
        clear hc
        go_wp2_with fail
        exact ⟨⟨k + 1, by omega, by go_num, (by first | rfl | trivial), by
          rw [HT.out]; intro x hx
          rcases List.mem_append.1 hx with h | h
          · exact HNO.out x h
          · simp at h; rw [h]; exact HC.out⟩, by simp [intOf]; omega⟩
    · obtain rfl : k = s.size := by omega
      go_wp2_with fail
      refine bodyPost_ret (results_tmp3 rfl _ _ _) rfl ?_
      refine ⟨?_, Below.refl _ _⟩
      have := HNO.out
      rw [List.take_of_length_le (by rw [HL.out]; exact Nat.le_refl _)] at this
      rw [colonB_none this]
      rfl
end Go.Proofs.YtgnoaeldmpbjmaaGreatDoor
