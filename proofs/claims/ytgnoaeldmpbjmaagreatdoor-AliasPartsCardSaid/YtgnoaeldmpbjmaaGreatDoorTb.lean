/- alias: a table in memory; what is asked of it. -/
import Derived.Test.YtgnoaeldmpbjmaaGreatDoorMp
import Derived.Test.YtgnoaeldmpbjmaaGreatDoorEr
import Derived.Test.YtgnoaeldmpbjmaaGreatDoorOf
namespace Go.Proofs.YtgnoaeldmpbjmaaGreatDoor
open Go.RowKit

/-- An entry: an alias, its room, who gave it. -/
structure En where
  a : ByteArray
  r : ByteArray
  b : ByteArray
abbrev En.cells (x : En) : Array Value := #[.string x.a, .string x.r, .string x.b]
def enZ : En := ⟨⟨#[]⟩, ⟨#[]⟩, ⟨#[]⟩⟩
def ents (l : List En) : List (ByteArray × Value) := l.map fun x => (x.a, .agg x.cells)
def aliasIs (k : ByteArray) (x : En) : Bool := x.a.data.toList == k.data.toList
def getE (l : List En) (k : ByteArray) : Option En := l.find? (aliasIs k)
theorem ents_get (l : List En) (k : ByteArray) : getS (ents l) k = (getE l k).map fun x => .agg x.cells := by
  unfold getS ents getE
  rw [List.find?_map, Option.map_map]
  rfl
theorem ents_length (l : List En) : (ents l).length = l.length := by simp [ents]
/-- A table: its server, how many may be, what there is, by aliases rising; block b is its map. -/
structure Tab (w : World) (g b : Nat) (server : ByteArray) (most : Int) (l : List En) : Prop where
  blk : w.heap[g]? = some (.cells #[.string server, .int .i64 most, .map (some b)] 80 (0, 0))
  mp : MapS w Tryz.prog 9 b (ents l)
theorem Tab.same {w w' : World} {g b : Nat} {server : ByteArray} {most : Int} {l : List En} (h : Tab w g b server most l) (hg : w'.heap[g]? = w.heap[g]?) (hb : w'.heap[b]? = w.heap[b]?) : Tab w' g b server most l := ⟨hg.trans h.blk, h.mp.same hb⟩
theorem Tab.below {w w' : World} {g b : Nat} {server : ByteArray} {most : Int} {l : List En} (h : Tab w g b server most l) (hb : Below w.heap.size w w') : Tab w' g b server most l := h.same (hb.block g (blk_lt h.blk)) (hb.block b h.mp.lt)
theorem Tab.ne {w : World} {g b : Nat} {server : ByteArray} {most : Int} {l : List En} (h : Tab w g b server most l) : g ≠ b := by
  rintro rfl
  obtain ⟨h1, es, clock, h2, _⟩ := h
  rw [h1] at h2
  cases h2
theorem zeroEn (w : World) : (zeroValue 49).run Tryz.prog w = .ok (.agg enZ.cells) w := by kernel_rfl
def errNone : Value := .iface 67 (.int .i64 16)
def getV : Option En → Value
  | some x => .tuple #[.agg x.cells, .nilIface]
  | none => .tuple #[.agg enZ.cells, errNone]
theorem three_heap {w : World} {g E : Nat} {cs : Array Value} {a b c : Value} (h : w.heap[g]? = some (.cells cs E (0, 0))) (hs : cs.size = 3) :
    (((w.setCell ⟨g, 0, none⟩ a).setCell ⟨g, 1, none⟩ b).setCell ⟨g, 2, none⟩ c).heap[g]? = some (.cells #[a, b, c] E (0, 0)) := by
  rw [setCell_heap_at (setCell_heap_at (setCell_heap_at h))]
  obtain ⟨l⟩ := cs
  match l, hs with
  | [_, _, _], _ => rfl
theorem results_row_tmp' {P : Program} {fn : Func} {p u : Tmp} {ty : TypeId} (h : fn.results = #[.cell p ty, .tmp u]) (tmps : Array Value) (w : World) (g : Nat) (t : TypeId) (cs : Array Value) (fr : Nat × Nat) (d : TypeDesc)
    (hp : tmps.getD p undef = .pointer (some ⟨g, 0, none⟩)) (hg : w.heap[g]? = some (.cells cs t fr))
    (hu : P.underlying ty = some d) (hd : (match d with | .struct _ | .array _ _ => true | _ => false) = true) (hi : (P.info? ty).map (·.size) = some cs.size) :
    (results fn tmps).run P w = .ok (.tuple #[.agg cs, tmps.getD u undef]) w := by
  have hp' : tmps[p]?.getD undef = .pointer (some ⟨g, 0, none⟩) := by simpa using hp
  simp [results, h, hp', asAddr, run_loadVar_row w g t ty cs fr d hg hu hd hi]

set_option maxRecDepth 100000 in
theorem get_calls (w : World) (g b : Nat) (server : ByteArray) (most : Int) (l : List En) (k : ByteArray) (ht : Tab w g b server most l) (hk : k.size ≤ maxLen) :
    Calls Tryz.prog 15 #[.pointer (some ⟨g, 0, none⟩), .string k] w fun e w' => e = .returned (getV (getE l k)) ∧ Below w.heap.size w w' := by
  have hg := blk_lt ht.blk
  have k2 := cell_at (j := 2) ht.blk rfl
  have HM := Lib.hid ht.mp
  have hG := ents_get l k
  clear ht
  generalize getE l k = o at *
  cases o with
  | none =>
    have hv : (getS (ents l) k).getD (.agg enZ.cells) = .agg enZ.cells := by rw [hG]; rfl
    have hok : (getS (ents l) k).isSome = false := by rw [hG]; rfl
    have HV := Lib.hid hv
    have HOK := Lib.hid hok
    clear hv hok hG
    go_enter Tryz.func15, Tryz.ntmps15
    go_wp2_with (at_lookup; refine lookupS_ok _ rfl _ _ 78 rfl 9 49 Tryz.underlying9 Tryz.underlying78 _ (zeroEn _) b (ents l) rfl ?cm k rfl hk _ false HV.out HOK.out ?_)
    case cm => exact HM.out.same (heap_old_at _ _ _ HM.out.lt)
    refine bodyPost_ret (results_row_tmp' rfl _ _ w.heap.size 49 _ (0, 0) _ rfl ((heap_old_at _ _ _ (by simp)).trans (heap_new_at w _ _ rfl)) Tryz.underlying49 rfl (by kernel_rfl)) rfl ?_
    exact ⟨rfl, ((Below.refl _ _).alloc (Nat.le_refl _) _).alloc (by simp) _⟩
  | some x =>
    have hv : (getS (ents l) k).getD (.agg enZ.cells) = .agg x.cells := by rw [hG]; rfl
    have hok : (getS (ents l) k).isSome = true := by rw [hG]; rfl
    have HV := Lib.hid hv
    have HOK := Lib.hid hok
    clear hv hok hG
    go_enter Tryz.func15, Tryz.ntmps15
    go_wp2_with (at_lookup; refine lookupS_ok _ rfl _ _ 78 rfl 9 49 Tryz.underlying9 Tryz.underlying78 _ (zeroEn _) b (ents l) rfl ?cm k rfl hk _ true HV.out HOK.out ?_)
    case cm => exact HM.out.same (heap_old_at _ _ _ HM.out.lt)
    refine bodyPost_ret (results_row_tmp' rfl _ _ w.heap.size 49 _ (0, 0) _ rfl ((heap_old_at _ _ _ (by simp)).trans (heap_new_at w _ _ rfl)) Tryz.underlying49 rfl (by kernel_rfl)) rfl ?_
    exact ⟨rfl, ((Below.refl _ _).alloc (Nat.le_refl _) _).alloc (by simp) _⟩

theorem len_calls (w : World) (g b : Nat) (server : ByteArray) (most : Int) (l : List En) (ht : Tab w g b server most l) :
    Calls Tryz.prog 23 #[.pointer (some ⟨g, 0, none⟩)] w fun e w' => e = .returned (.int .i64 l.length) ∧ w = w' := by
  have hg := blk_lt ht.blk
  have k2 := cell_at (j := 2) ht.blk rfl
  have HM := Lib.hid ht.mp
  have HL := Lib.hid (ents_length l)
  clear ht
  go_enter Tryz.func23, Tryz.ntmps23
  go_wp2_with (at_len; refine lenS _ rfl _ 78 rfl 9 49 Tryz.underlying78 b (ents l) rfl HM.out ?_)
  go_ret
  exact ⟨by rw [HL.out]; rfl, rfl⟩

/-- A fault about an error. -/
theorem in_calls (w : World) (P : Nat → Prop) (f : ByteArray) (v : Value) (p : List ByteArray) (c : Int) (h : Flt w P v p c) :
    Calls Tryz.prog 28 #[.string f, v] w fun e w' => ∃ v', e = .returned v' ∧ Flt w' (fun g => P g ∨ w.heap.size ≤ g) v' (f :: p) c ∧ Below w.heap.size w w' := by
  have HF := Lib.hid h
  obtain ⟨t, u, rfl⟩ : ∃ t u, v = .iface t u := by cases h <;> exact ⟨_, _, rfl⟩
  clear h
  go_enter Tryz.func28, Tryz.ntmps28
  go_wp2_with fail
  go_ret
  refine ⟨_, rfl, .fault w.heap.size f _ p c (heap_new _ _) (.inr (Nat.le_refl _)) ((HF.out.same (fun g hg _ => heap_old_at _ _ _ hg)).mono (fun g _ hg => .inl hg)), (Below.refl _ _).alloc (Nat.le_refl _) _⟩
/-- .. about a code. -/
theorem in_code (w : World) (f : ByteArray) (c : Int) :
    Calls Tryz.prog 28 #[.string f, .iface 67 (.int .i64 c)] w fun e w' => ∃ v', e = .returned v' ∧ ErrV w' (fun g => w.heap.size ≤ g) v' (some ([f], c)) ∧ Below w.heap.size w w' :=
  (in_calls w (fun _ => False) f _ [] c (.code c)).mono fun e w' ⟨v', h1, h2, h3⟩ => ⟨v', h1, h2.mono (fun g _ h => by rcases h with h | h; exact h.elim; exact h), h3⟩

abbrev sServer : ByteArray := ⟨#[115, 101, 114, 118, 101, 114]⟩
abbrev sRoom : ByteArray := ⟨#[114, 111, 111, 109]⟩
abbrev sAlias : ByteArray := ⟨#[97, 108, 105, 97, 115]⟩
abbrev sUser : ByteArray := ⟨#[117, 115, 101, 114]⟩
/-- What is wrong with a new table. -/
def newErr (s : ByteArray) (n : Int) : Er := if serverB s.data.toList = false then some ([sServer], 7) else if n < 1 ∨ 400 < n then some ([sRoom], 8) else none

theorem new_ok (w : World) (s : ByteArray) (n : Int) (hs : s.size < 4294967281) (hm : Mx w) (h1 : serverB s.data.toList = true) (h2 : 1 ≤ n) (h3 : n ≤ 400) :
    Calls Tryz.prog 9 #[.string s, .int .i64 n] w fun e w' => ∃ g b, e = .returned (.tuple #[.pointer (some ⟨g, 0, none⟩), .nilIface]) ∧ Tab w' g b s n [] ∧ w.heap.size ≤ g ∧ w.heap.size ≤ b ∧ Below w.heap.size w w' := by
  have HS := Lib.hid (isServer_calls w s hs hm)
  have hmm := @run_makeMap Tryz.prog
  have g1 : decide (n < (1 : Int)) = false := by simp; omega
  have g2 : decide ((400 : Int) < n) = false := by simp; omega
  clear hm
  rw [h1] at HS
  clear h1 h2 h3
  go_enter Tryz.func9, Tryz.ntmps9
  go_wp2_with fail
  refine HS.out.mono ?_
  rintro e w1 ⟨rfl, hb⟩
  have HB := Lib.hid hb
  clear hb HS
  go_wp2_with fail
  go_ret2
  refine ⟨w1.heap.size + 1, w1.heap.size, rfl, ⟨?_, ?_⟩, by have := HB.out.size; omega, HB.out.size, (HB.out.alloc HB.out.size _).alloc (by have := HB.out.size; simp; omega) _⟩
  · have := heap_new (w1.alloc (.map #[] 0)) (.cells #[.string s, .int .i64 n, .map (some w1.heap.size)] 80 (0, 0))
    simpa using this
  · exact (MapS.made w1 Tryz.prog 9).same (heap_old_at _ _ _ (by simp))
theorem new_bad (w : World) (s : ByteArray) (n : Int) (hs : s.size < 4294967281) (hm : Mx w) (hbad : newErr s n ≠ none) :
    Calls Tryz.prog 9 #[.string s, .int .i64 n] w fun e w' => ∃ v, e = .returned (.tuple #[.pointer none, v]) ∧ ErrV w' (fun g => w.heap.size ≤ g) v (newErr s n) ∧ Below w.heap.size w w' := by
  have HS := Lib.hid (isServer_calls w s hs hm)
  have HBAD := Lib.hid hbad
  clear hm hbad
  cases h1 : serverB s.data.toList with
  | false =>
    have HE := Lib.hid (show newErr s n = some ([sServer], 7) by unfold newErr; rw [if_pos h1])
    rw [h1] at HS
    clear h1
    go_enter Tryz.func9, Tryz.ntmps9
    go_wp2_with fail
    refine HS.out.mono ?_
    rintro e w1 ⟨rfl, hb⟩
    have HB := Lib.hid hb
    clear hb HS
    go_wp2_with fail
    refine (in_code w1 sServer 7).mono ?_
    rintro e w2 ⟨v, rfl, hv, hb2⟩
    have HV := Lib.hid hv
    have HB2 := Lib.hid (HB.out.trans (hb2.mono HB.out.size))
    clear hv hb2
    go_wp2_with fail
    go_ret2
    exact ⟨v, rfl, by rw [HE.out]; exact HV.out.mono (fun g _ h => Nat.le_trans HB.out.size h), HB2.out⟩
  | true =>
    have h400 : n < 1 ∨ 400 < n := by
      have := HBAD.out
      unfold newErr at this
      rw [if_neg (by rw [h1]; decide)] at this
      by_cases h : n < 1 ∨ 400 < n
      · exact h
      · rw [if_neg h] at this; exact absurd rfl this
    have HE := Lib.hid (show newErr s n = some ([sRoom], 8) by unfold newErr; rw [if_neg (by rw [h1]; decide), if_pos h400])
    rw [h1] at HS
    clear h1
    rcases Int.lt_or_le n 1 with hl | hl
    · have g1 : decide (n < (1 : Int)) = true := by simp; omega
      clear h400 hl
      go_enter Tryz.func9, Tryz.ntmps9
      go_wp2_with fail
      refine HS.out.mono ?_
      rintro e w1 ⟨rfl, hb⟩
      have HB := Lib.hid hb
      clear hb HS
      go_wp2_with fail
      refine (in_code w1 sRoom 8).mono ?_
      rintro e w2 ⟨v, rfl, hv, hb2⟩
      have HV := Lib.hid hv
      have HB2 := Lib.hid (HB.out.trans (hb2.mono HB.out.size))
      clear hv hb2
      go_wp2_with fail
      go_ret2
      exact ⟨v, rfl, by rw [HE.out]; exact HV.out.mono (fun g _ h => Nat.le_trans HB.out.size h), HB2.out⟩
    · have g1 : decide (n < (1 : Int)) = false := by simp; omega
      have g2 : decide ((400 : Int) < n) = true := by simp; omega
      clear h400 hl
      go_enter Tryz.func9, Tryz.ntmps9
      go_wp2_with fail
      refine HS.out.mono ?_
      rintro e w1 ⟨rfl, hb⟩
      have HB := Lib.hid hb
      clear hb HS
      go_wp2_with fail
      refine (in_code w1 sRoom 8).mono ?_
      rintro e w2 ⟨v, rfl, hv, hb2⟩
      have HV := Lib.hid hv
      have HB2 := Lib.hid (HB.out.trans (hb2.mono HB.out.size))
      clear hv hb2
      go_wp2_with fail
      go_ret2
      exact ⟨v, rfl, by rw [HE.out]; exact HV.out.mono (fun g _ h => Nat.le_trans HB.out.size h), HB2.out⟩
end Go.Proofs.YtgnoaeldmpbjmaaGreatDoor
