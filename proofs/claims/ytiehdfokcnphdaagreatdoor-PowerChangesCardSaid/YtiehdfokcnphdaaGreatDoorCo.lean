/- value.Copy: the same value, in new memory. -/
import Derived.Test.YtiehdfokcnphdaaGreatDoorCl
import Derived.Deep.DeepFit
import Derived.Laws.Rows
import Derived.Deep.LoopGhost
import Derived.Deep.DeepCutAuto
import Derived.Deep.CutBlock
import Derived.Deep.RegionHeld3
namespace Go.Proofs.YtiehdfokcnphdaaGreatDoor
open Go.RowKit

/-- A value whose rows lie in blocks from lo on, below N, all that they reach from N on. -/
structure RepN (w : World) (lo N : Nat) (x : V6) (L : List V) (M : List (ByteArray × V)) (ys : List V6) (zs : List Mb) : Prop where
  rowL : RowOf w (fun g => lo ≤ g ∧ g < N) 44 6 x.list (vcells ys)
  rowM : RowOf w (fun g => lo ≤ g ∧ g < N) 48 7 x.map (mcells zs)
  apart : ∀ r, x.list.a = some ⟨r, 0, none⟩ → x.map.a = some ⟨r, 0, none⟩ → False
  lenL : ys.length = L.length
  lenM : zs.length = M.length
  elL : ∀ (i : Nat) (y : V6) (v : V), ys[i]? = some y → L[i]? = some v → RepV w (fun g => N ≤ g) y v
  keyM : ∀ (i : Nat) (m : Mb) (kv : ByteArray × V), zs[i]? = some m → M[i]? = some kv → m.key = kv.1
  elM : ∀ (i : Nat) (m : Mb) (kv : ByteArray × V), zs[i]? = some m → M[i]? = some kv → RepV w (fun g => N ≤ g) m.v kv.2
def Deep (w : World) (lo : Nat) (x : V6) (v : V) : Prop := ∃ N L M ys zs, lo ≤ N ∧ v = .mk x.kind x.yes x.int x.text L M ∧ RepN w lo N x L M ys zs
theorem RepN.stored {w : World} {lo N : Nat} {x : V6} {L : List V} {M : List (ByteArray × V)} {ys : List V6} {zs : List Mb} (h : RepN w lo N x L M ys zs) (hN : lo ≤ N) (g o : Nat) (vs : List Value) (hg : g < lo) : RepN (w.setCells g o vs) lo N x L M ys zs := by
  have hb : ∀ k, k ≠ g → (w.setCells g o vs).heap[k]? = w.heap[k]? := fun k hk => setCells_other g vs o w k hk
  have hs := (setCells_grown g vs o w).size
  exact ⟨h.rowL.same hs (fun k _ hk => hb k (by omega)), h.rowM.same hs (fun k _ hk => hb k (by omega)), h.apart, h.lenL, h.lenM, fun i y v hy hv => (h.elL i y v hy hv).same hs (fun k _ hk => hb k (by omega)), h.keyM, fun i m kv hm hkv => (h.elM i m kv hm hkv).same hs (fun k _ hk => hb k (by omega))⟩

/-- What Copy promises of a value, in whatever later world. -/
def CopyOk (w : World) (P : Nat → Prop) (x : V6) (v : V) : Prop :=
  ∀ W : World, w.heap.size ≤ W.heap.size → (∀ g, g < w.heap.size → P g → W.heap[g]? = w.heap[g]?) →
    Calls Tryz.prog 26 #[.agg x.cells] W fun e w' => ∃ x' : V6, e = .returned (.agg x'.cells) ∧ RepV w' (fun g => W.heap.size ≤ g) x' v ∧ Below W.heap.size W w' ∧ Deep w' W.heap.size x' v

/-- Behind the two clones. -/
structure CMid (W : World) (x : V6) (xs : List V6) (ms : List Mb) (sl sm : Sl) (wr : World) : Prop where
  box : wr.heap[W.heap.size]? = some (.cells #[.int .i64 x.kind, .bool x.yes, .int .i64 x.int, .string x.text, .slice sl.a sl.n sl.c, .slice sm.a sm.n sm.c] 44 (0, 0))
  res : wr.heap[W.heap.size + 1]? = some (.cells #[.int .i64 0, .bool false, .int .i64 0, .string ⟨#[]⟩, .slice none 0 0, .slice none 0 0] 44 (0, 0))
  rowL : RowOf wr (fun g => W.heap.size + 2 ≤ g) 44 6 sl (vcells xs)
  rowM : RowOf wr (fun g => W.heap.size + 2 ≤ g) 48 7 sm (mcells ms)
  apart : ∀ r, sl.a = some ⟨r, 0, none⟩ → sm.a = some ⟨r, 0, none⟩ → False
  below : Below W.heap.size W wr

theorem mid_close {W W2 wv : World} {x : V6} {xs : List V6} {ms : List Mb} {sl sm : Sl} (hcur : Below W.heap.size W W2) (hsz : W.heap.size + 2 ≤ W2.heap.size)
    (hx : W2.heap[W.heap.size]? = some (.cells x.cells 44 (0, 0))) (hr : W2.heap[W.heap.size + 1]? = some (.cells #[.int .i64 0, .bool false, .int .i64 0, .string ⟨#[]⟩, .slice none 0 0, .slice none 0 0] 44 (0, 0)))
    (hb : Below W2.heap.size W2 wv) (hl : RowOf wv (fun g => W2.heap.size ≤ g) 44 6 sl (vcells xs)) (hm : RowOf wv (fun g => W2.heap.size ≤ g) 48 7 sm (mcells ms))
    (hap : ∀ r, sl.a = some ⟨r, 0, none⟩ → sm.a = some ⟨r, 0, none⟩ → False) :
    CMid W x xs ms sl sm ((wv.setCell ⟨W.heap.size, 4, none⟩ (.slice sl.a sl.n sl.c)).setCell ⟨W.heap.size, 5, none⟩ (.slice sm.a sm.n sm.c)) := by
  have hbs := hb.size
  have hx' := (hb.block W.heap.size (by omega)).trans hx
  have hr' := (hb.block (W.heap.size + 1) (by omega)).trans hr
  have hother : ∀ g, g ≠ W.heap.size → ((wv.setCell ⟨W.heap.size, 4, none⟩ (.slice sl.a sl.n sl.c)).setCell ⟨W.heap.size, 5, none⟩ (.slice sm.a sm.n sm.c)).heap[g]? = wv.heap[g]? := fun g hg =>
    (Below.heap_setCell _ _ _ _ hg).trans (Below.heap_setCell _ _ _ _ hg)
  have hsame : ((wv.setCell ⟨W.heap.size, 4, none⟩ (.slice sl.a sl.n sl.c)).setCell ⟨W.heap.size, 5, none⟩ (.slice sm.a sm.n sm.c)).heap.size = wv.heap.size := by simp [World.setCell]
  refine ⟨?_, ?_, ?_, ?_, hap, ?_⟩
  · rw [setCell_heap_at (setCell_heap_at hx')]
    rfl
  · rw [hother _ (by omega)]; exact hr'
  · exact (hl.mono (Q := fun g => W.heap.size + 2 ≤ g) (fun g _ h => by omega)).same (by rw [hsame]; exact Nat.le_refl _) (fun g _ h => hother g (by omega))
  · exact (hm.mono (Q := fun g => W.heap.size + 2 ≤ g) (fun g _ h => by omega)).same (by rw [hsame]; exact Nat.le_refl _) (fun g _ h => hother g (by omega))
  · have h1 : Below W.heap.size W wv := hcur.trans (hb.mono hcur.size)
    refine ⟨by simp [World.setCell]; exact h1.os, by simp [World.setCell]; exact h1.tape, by simp [World.setCell]; exact h1.output, by rw [hsame]; exact h1.size, fun g hg => ?_⟩
    rw [hother g (by omega)]
    exact h1.block g hg

theorem CopyOk.at {w W W' : World} {P : Nat → Prop} {x : V6} {v : V} (h : CopyOk w P x v) (hs : w.heap.size ≤ W.heap.size) (hb : ∀ g, g < w.heap.size → P g → W.heap[g]? = w.heap[g]?) (hw : Below W.heap.size W W') :
    Calls Tryz.prog 26 #[.agg x.cells] W' fun e w' => ∃ x' : V6, e = .returned (.agg x'.cells) ∧ RepV w' (fun g => W'.heap.size ≤ g) x' v ∧ Below W'.heap.size W' w' ∧ Deep w' W'.heap.size x' v :=
  h W' (Nat.le_trans hs hw.size) (fun g hg hp => (hw.block g (Nat.lt_of_lt_of_le hg hs)).trans (hb g hg hp))
/-- A store into a row changes no value that lies elsewhere. -/
theorem RepV.stored {w : World} {P : Nat → Prop} {x : V6} {v : V} (h : RepV w P x v) (r o : Nat) (vs : List Value) (hr : ¬ P r) : RepV (w.setCells r o vs) P x v :=
  h.same (setCells_grown r vs o w).size (fun g _ hp => setCells_other r vs o w g (fun e => hr (e ▸ hp)))
/-- A store into another row than these leaves what stood behind the clones. -/
theorem CMid.store {W : World} {x : V6} {ys ys' : List V6} {zs zs' : List Mb} {sl sm : Sl} {wr wv : World} {r o : Nat} {vs : List Value} (h : CMid W x ys zs sl sm wr) (hb : Below wr.heap.size wr wv) (hr : W.heap.size + 2 ≤ r)
    (hl : RowOf (wv.setCells r o vs) (fun g => W.heap.size + 2 ≤ g) 44 6 sl (vcells ys')) (hm : RowOf (wv.setCells r o vs) (fun g => W.heap.size + 2 ≤ g) 48 7 sm (mcells zs')) :
    CMid W x ys' zs' sl sm (wv.setCells r o vs) := by
  have ho : ∀ g, g ≠ r → (wv.setCells r o vs).heap[g]? = wv.heap[g]? := fun g hg => setCells_other r vs o wv g hg
  have hbl := (Array.getElem?_eq_some_iff.1 h.box).1
  have hres := h.res
  have hrl := (Array.getElem?_eq_some_iff.1 hres).1
  refine ⟨?_, ?_, hl, hm, h.apart, ?_⟩
  · rw [ho _ (by omega)]; exact (hb.block _ hbl).trans h.box
  · rw [ho _ (by omega)]; exact (hb.block _ hrl).trans hres
  · have h1 : Below W.heap.size W wv := h.below.trans (hb.mono h.below.size)
    have hg := setCells_grown r vs o wv
    exact ⟨hg.os.trans h1.os, hg.tape.trans h1.tape, hg.output.trans h1.output, Nat.le_trans h1.size hg.size, fun g hg' => (ho g (by omega)).trans (h1.block g hg')⟩
/-- The first loop's head. -/
structure CL1 (W : World) (x : V6) (L : List V) (xs : List V6) (ms : List Mb) (sl sm : Sl) (N k : Nat) (ys : List V6) (wr : World) : Prop where
  mid : CMid W x ys ms sl sm wr
  len : ys.length = xs.length
  new : ∀ (j : Nat) (y : V6) (v : V), j < k → ys[j]? = some y → L[j]? = some v → RepV wr (fun g => N ≤ g) y v
  old : ∀ j, k ≤ j → ys[j]? = xs[j]?
  size : N ≤ wr.heap.size
  rl : ∀ r, sl.a = some ⟨r, 0, none⟩ → r < N
  rm : ∀ r, sm.a = some ⟨r, 0, none⟩ → r < N
theorem CL1.step {W : World} {x : V6} {L : List V} {xs : List V6} {ms : List Mb} {sl sm : Sl} {N k N' : Nat} {ys : List V6} {wr wv : World} {y' : V6} {v : V} {r : Nat} (h : CL1 W x L xs ms sl sm N k ys wr) (hk : k < xs.length) (hv : L[k]? = some v)
    (ha : sl.a = some ⟨r, 0, none⟩) (hb : Below wr.heap.size wr wv) (hN : wr.heap.size ≤ N') (hrep : RepV wv (fun g => N' ≤ g) y' v) :
    CL1 W x L xs ms sl sm N (k + 1) (ys.set k y') (wv.setCells r (k * 6) y'.cells.toList) := by
  obtain ⟨hrP, hrl, hrw⟩ := h.mid.rowL.at ha
  have hrN := h.rl r ha
  have hs := h.size
  have hk2 : k < ys.length := by rw [h.len]; exact hk
  have hset : vcells (ys.set k y') = (vcells ys).set k y'.cells.toList := by simp [vcells, List.map_set]
  have hrw2 : Rw (wv.setCells r (k * 6) y'.cells.toList) 44 r sl.c 6 (vcells (ys.set k y')) := by
    rw [hset]
    exact (hrw.below hb hrl).put k (by simpa using hk2) _ rfl
  have hg := setCells_grown r y'.cells.toList (k * 6) wv
  have hwv := hb.size
  refine ⟨h.mid.store hb hrP ?_ ?_, by simp [h.len], ?_, ?_, Nat.le_trans hs (Nat.le_trans hwv hg.size), h.rl, h.rm⟩
  · obtain ⟨a1, a2, a3⟩ := h.mid.rowL
    refine ⟨by simpa using a1, by simpa using a2, .inr ⟨r, ha, ?_, hrP, ?_, hrw2⟩⟩
    · rcases a3 with ⟨e, _⟩ | ⟨_, _, e, _⟩
      · rw [e] at ha; cases ha
      · exact e
    · exact hrw2.lt
  · exact h.mid.rowM.kept (Nat.le_trans hwv hg.size) (fun g hgl hga => (setCells_other r _ _ wv g (fun e => h.mid.apart r ha (e ▸ hga))).trans (hb.block g hgl))
  · intro j y u hj hy hu
    by_cases hjk : j = k
    · subst hjk
      rw [List.getElem?_set_self hk2] at hy
      cases hy
      rw [hv] at hu
      cases hu
      exact (hrep.mono (fun g _ hg => by omega)).stored r _ _ (by omega)
    · rw [List.getElem?_set_ne (fun e => hjk e.symm)] at hy
      exact ((h.new j y u (by omega) hy hu).same hwv (fun g hgl _ => hb.block g hgl)).stored r _ _ (by omega)
  · intro j hj
    rw [List.getElem?_set_ne (by omega)]
    exact h.old j (by omega)

/-- The second loop's head. -/
structure CL2 (W : World) (x : V6) (L : List V) (M : List (ByteArray × V)) (ms : List Mb) (sl sm : Sl) (N k : Nat) (ys : List V6) (zs : List Mb) (wr : World) : Prop where
  mid : CMid W x ys zs sl sm wr
  lenL : ys.length = L.length
  len : zs.length = ms.length
  allL : ∀ (j : Nat) (y : V6) (v : V), ys[j]? = some y → L[j]? = some v → RepV wr (fun g => N ≤ g) y v
  keys : ∀ (j : Nat) (z m : Mb), zs[j]? = some z → ms[j]? = some m → z.key = m.key
  new : ∀ (j : Nat) (z : Mb) (kv : ByteArray × V), j < k → zs[j]? = some z → M[j]? = some kv → RepV wr (fun g => N ≤ g) z.v kv.2
  old : ∀ j, k ≤ j → zs[j]? = ms[j]?
  size : N ≤ wr.heap.size
  rl : ∀ r, sl.a = some ⟨r, 0, none⟩ → r < N
  rm : ∀ r, sm.a = some ⟨r, 0, none⟩ → r < N
theorem CL1.done {W : World} {x : V6} {L : List V} {M : List (ByteArray × V)} {xs : List V6} {ms : List Mb} {sl sm : Sl} {N : Nat} {ys : List V6} {wr : World} (h : CL1 W x L xs ms sl sm N xs.length ys wr) (hl : xs.length = L.length) : CL2 W x L M ms sl sm N 0 ys ms wr :=
  ⟨h.mid, h.len.trans hl, rfl, fun j y v hy hv => h.new j y v (by have := (List.getElem?_eq_some_iff.1 hy).1; have := h.len; omega) hy hv, fun j z m hz hm => by rw [hz] at hm; cases hm; rfl, fun j z kv hj => absurd hj (by omega), fun j _ => rfl, h.size, h.rl, h.rm⟩
theorem CL2.step {W : World} {x : V6} {L : List V} {M : List (ByteArray × V)} {ms : List Mb} {sl sm : Sl} {N k N' : Nat} {ys : List V6} {zs : List Mb} {wr wv : World} {y' : V6} {kv : ByteArray × V} {m : Mb} {r : Nat} (h : CL2 W x L M ms sl sm N k ys zs wr) (hm : zs[k]? = some m) (hv : M[k]? = some kv)
    (ha : sm.a = some ⟨r, 0, none⟩) (hb : Below wr.heap.size wr wv) (hN : wr.heap.size ≤ N') (hrep : RepV wv (fun g => N' ≤ g) y' kv.2) :
    CL2 W x L M ms sl sm N (k + 1) ys (zs.set k ⟨m.key, y'⟩) (wv.setCells r (k * 7 + 1) y'.cells.toList) := by
  obtain ⟨hrP, hrl, hrw⟩ := h.mid.rowM.at ha
  have hrN := h.rm r ha
  have hs := h.size
  have hk2 : k < zs.length := (List.getElem?_eq_some_iff.1 hm).1
  have hset : mcells (zs.set k ⟨m.key, y'⟩) = (mcells zs).set k (.string m.key :: y'.cells.toList) := by simp [mcells, List.map_set]
  have hrw2 : Rw (wv.setCells r (k * 7 + 1) y'.cells.toList) 48 r sm.c 7 (mcells (zs.set k ⟨m.key, y'⟩)) := by
    rw [hset]
    exact (hrw.below hb hrl).putTail k _ m.v.cells.toList _ (by simp [hm]) rfl
  have hg := setCells_grown r y'.cells.toList (k * 7 + 1) wv
  have hwv := hb.size
  refine ⟨h.mid.store hb hrP ?_ ?_, h.lenL, by simp [h.len], ?_, ?_, ?_, ?_, Nat.le_trans hs (Nat.le_trans hwv hg.size), h.rl, h.rm⟩
  · exact h.mid.rowL.kept (Nat.le_trans hwv hg.size) (fun g hgl hga => (setCells_other r _ _ wv g (fun e => h.mid.apart g hga (e ▸ ha))).trans (hb.block g hgl))
  · obtain ⟨a1, a2, a3⟩ := h.mid.rowM
    refine ⟨by simpa using a1, by simpa using a2, .inr ⟨r, ha, ?_, hrP, ?_, hrw2⟩⟩
    · rcases a3 with ⟨e, _⟩ | ⟨_, _, e, _⟩
      · rw [e] at ha; cases ha
      · exact e
    · exact hrw2.lt
  · intro j y v hy hv'
    exact ((h.allL j y v hy hv').same hwv (fun g hgl _ => hb.block g hgl)).stored r _ _ (by omega)
  · intro j z m' hz hm'
    by_cases hjk : j = k
    · subst hjk
      rw [List.getElem?_set_self hk2] at hz
      cases hz
      exact h.keys j m m' hm hm'
    · rw [List.getElem?_set_ne (fun e => hjk e.symm)] at hz
      exact h.keys j z m' hz hm'
  · intro j z u hj hz hu
    by_cases hjk : j = k
    · subst hjk
      rw [List.getElem?_set_self hk2] at hz
      cases hz
      rw [hv] at hu
      cases hu
      exact (hrep.mono (fun g _ hg => by omega)).stored r _ _ (by omega)
    · rw [List.getElem?_set_ne (fun e => hjk e.symm)] at hz
      exact ((h.new j z u (by omega) hz hu).same hwv (fun g hgl _ => hb.block g hgl)).stored r _ _ (by omega)
  · intro j hj
    rw [List.getElem?_set_ne (by omega)]
    exact h.old j (by omega)
theorem CL2.done {W : World} {x : V6} {L : List V} {M : List (ByteArray × V)} {ms : List Mb} {sl sm : Sl} {N : Nat} {ys : List V6} {zs : List Mb} {wr : World} (h : CL2 W x L M ms sl sm N ms.length ys zs wr) (hl : ms.length = M.length)
    (hk : ∀ (i : Nat) (m : Mb) (kv : ByteArray × V), ms[i]? = some m → M[i]? = some kv → m.key = kv.1) (hN : W.heap.size + 2 ≤ N) : RepV wr (fun g => W.heap.size + 2 ≤ g) ⟨x.kind, x.yes, x.int, x.text, sl, sm⟩ (.mk x.kind x.yes x.int x.text L M) :=
  .mk ⟨x.kind, x.yes, x.int, x.text, sl, sm⟩ L M ys zs (h.mid.rowL.mono (fun g _ hg => by omega)) (h.mid.rowM.mono (fun g _ hg => by omega)) h.lenL (h.len.trans hl)
    (fun i y v hy hv => (h.allL i y v hy hv).mono (fun g _ hg => by omega))
    (fun i z kv hz hkv => by
      have hi : i < ms.length := by have := (List.getElem?_eq_some_iff.1 hz).1; have := h.len; omega
      have hm : ms[i]? = some ms[i] := List.getElem?_eq_getElem hi
      rw [h.keys i z _ hz hm]
      exact hk i _ kv hm hkv)
    (fun i z kv hz hkv => (h.new i z kv (by have := (List.getElem?_eq_some_iff.1 hz).1; have := h.len; omega) hz hkv).mono (fun g _ hg => by omega))

theorem CL2.deep {W : World} {x : V6} {L : List V} {M : List (ByteArray × V)} {ms : List Mb} {sl sm : Sl} {N : Nat} {ys : List V6} {zs : List Mb} {wr : World} (h : CL2 W x L M ms sl sm N ms.length ys zs wr) (hl : ms.length = M.length)
    (hk : ∀ (i : Nat) (m : Mb) (kv : ByteArray × V), ms[i]? = some m → M[i]? = some kv → m.key = kv.1) : RepN wr (W.heap.size + 2) N ⟨x.kind, x.yes, x.int, x.text, sl, sm⟩ L M ys zs :=
  ⟨h.mid.rowL.both (fun r ha hp => ⟨hp, h.rl r ha⟩), h.mid.rowM.both (fun r ha hp => ⟨hp, h.rm r ha⟩), h.mid.apart, h.lenL, h.len.trans hl, fun i y v hy hv => h.allL i y v hy hv,
    fun i z kv hz hkv => by
      have hi : i < ms.length := by have := (List.getElem?_eq_some_iff.1 hz).1; have := h.len; omega
      have hm : ms[i]? = some ms[i] := List.getElem?_eq_getElem hi
      rw [h.keys i z _ hz hm]
      exact hk i _ kv hm hkv,
    fun i z kv hz hkv => h.new i z kv (by have := (List.getElem?_eq_some_iff.1 hz).1; have := h.len; omega) hz hkv⟩

set_option maxRecDepth 100000 in
theorem copy_step (w : World) (P : Nat → Prop) (x : V6) (L : List V) (M : List (ByteArray × V)) (xs : List V6) (ms : List Mb)
    (hL : RowOf w P 44 6 x.list (vcells xs)) (hM : RowOf w P 48 7 x.map (mcells ms))
    (lenL : xs.length = L.length) (lenM : ms.length = M.length)
    (keyM : ∀ (i : Nat) (m : Mb) (kv : ByteArray × V), ms[i]? = some m → M[i]? = some kv → m.key = kv.1)
    (ih1 : ∀ (i : Nat) (y : V6) (v : V), xs[i]? = some y → L[i]? = some v → CopyOk w P y v)
    (ih2 : ∀ (i : Nat) (m : Mb) (kv : ByteArray × V), ms[i]? = some m → M[i]? = some kv → CopyOk w P m.v kv.2) :
    CopyOk w P x (.mk x.kind x.yes x.int x.text L M) := by
  intro W hWs hWb
  have hL1 := hL.same hWs hWb
  have hM1 := hM.same hWs hWb
  have HWS := Lib.hid hWs
  have HWB := Lib.hid hWb
  have HIH1 := Lib.hid ih1
  have HIH2 := Lib.hid ih2
  have HK := Lib.hid keyM
  have HLL := Lib.hid lenL
  have HLM := Lib.hid lenM
  obtain ⟨W2, hW2⟩ : ∃ W2, W2 = (W.alloc (.cells x.cells 44)).alloc (.cells #[.int .i64 0, .bool false, .int .i64 0, .string ⟨#[]⟩, .slice none 0 0, .slice none 0 0] 44) := ⟨_, rfl⟩
  have HCV := Lib.hid (fun (W' : World) (h : Below W.heap.size W W') => cloneV_calls W' P x.list xs (hL1.same h.size (fun g hg _ => h.block g hg)))
  have HCM := Lib.hid (fun (W' : World) (h : Below W.heap.size W W') => cloneM_calls W' P x.map ms (hM1.same h.size (fun g hg _ => h.block g hg)))
  have HW2 := Lib.hid hW2
  clear hL hM hWs hWb hL1 hM1 ih1 ih2 keyM lenL lenM hW2
  go_enter Tryz.func26, Tryz.ntmps26
  go_wp2_with fail
  rw [← HW2.out]
  have hx2 : W2.heap[W.heap.size]? = some (.cells x.cells 44 (0, 0)) := by rw [HW2.out]; exact (Below.heap_alloc _ _ _ (by simp)).trans (heap_new _ _)
  have hr2 : W2.heap[W.heap.size + 1]? = some (.cells #[.int .i64 0, .bool false, .int .i64 0, .string ⟨#[]⟩, .slice none 0 0, .slice none 0 0] 44 (0, 0)) := by rw [HW2.out]; have := heap_new (W.alloc (.cells x.cells 44)) (.cells #[.int .i64 0, .bool false, .int .i64 0, .string ⟨#[]⟩, .slice none 0 0, .slice none 0 0] 44 (0, 0)); rw [show (W.alloc (.cells x.cells 44)).heap.size = W.heap.size + 1 by simp] at this; exact this
  have hcur : Below W.heap.size W W2 := by rw [HW2.out]; exact ((Below.refl _ _).alloc (Nat.le_refl _) _).alloc (by simp) _
  have hsz : W.heap.size + 2 ≤ W2.heap.size := by rw [HW2.out]; simp
  clear HW2
  have k4 : W2.cell? ⟨W.heap.size, 4, none⟩ = some (.slice x.list.a x.list.n x.list.c) := by simp [World.cell?, hx2]
  have k5 : W2.cell? ⟨W.heap.size, 5, none⟩ = some (.slice x.map.a x.map.n x.map.c) := by simp [World.cell?, hx2]
  have kz : ∀ o, W2.frozen? ⟨W.heap.size, o, none⟩ = false := fun o => by simp [World.frozen?, hx2]
  have HX2 := Lib.hid hx2
  have HR2 := Lib.hid hr2
  have HCUR := Lib.hid hcur
  clear hx2 hr2 hcur
  go_cut [] (fun wx => ∃ sl sm, CMid W x xs ms sl sm wx)
  case first =>
    go_region_law (first
      | (go_simp; go_at_call 47
         first
         | (refine (HCV.out _ HCUR3.out).mono ?_; rintro e wv ⟨sl, rfl, hrl, hb⟩
            have hlt : W.heap.size < wv.heap.size := by have := hb.size; omega
            have k4 := (hb.cell (p := ⟨W.heap.size, 4, none⟩) (by show W.heap.size < _; omega)).trans k4
            have k5 := (hb.cell (p := ⟨W.heap.size, 5, none⟩) (by show W.heap.size < _; omega)).trans k5
            have kz : ∀ o, wv.frozen? ⟨W.heap.size, o, none⟩ = false := fun o => (World.frozen?_of_block (hb.block _ (by show W.heap.size < _; omega))).trans (kz o)
            have HRL := Lib.hid hrl
            have HBL := Lib.hid hb
            clear hrl hb)
         | (refine (HCV.out _ HCUR.out.drew).mono ?_; rintro e wu ⟨sl, rfl, hrl, hb0⟩
            have hb : Below W2.heap.size W2 wu := ⟨hb0.os, hb0.tape, hb0.output, hb0.size, hb0.block⟩
            clear hb0
            have hlt : W.heap.size < wu.heap.size := by have := hb.size; omega
            have hsz3 : W.heap.size + 2 ≤ wu.heap.size := by have := hb.size; omega
            have k4 := (hb.cell (p := ⟨W.heap.size, 4, none⟩) (by show W.heap.size < _; omega)).trans k4
            have k5 := (hb.cell (p := ⟨W.heap.size, 5, none⟩) (by show W.heap.size < _; omega)).trans k5
            have kz : ∀ o, wu.frozen? ⟨W.heap.size, o, none⟩ = false := fun o => (World.frozen?_of_block (hb.block _ (by show W.heap.size < _; omega))).trans (kz o)
            have HCUR2 := Lib.hid (HCUR.out.trans (hb.mono HCUR.out.size))
            have HRL := Lib.hid hrl
            have HBL := Lib.hid hb
            clear hrl hb))
      | (go_simp; go_at_call 48
         first
         | (refine (HCM.out _ HCUR2.out).mono ?_; rintro e wv ⟨sm, rfl, hrm, hb⟩
            have hlt : W.heap.size < wv.heap.size := by have := hb.size; omega
            have k4 := (hb.cell (p := ⟨W.heap.size, 4, none⟩) (by show W.heap.size < _; omega)).trans k4
            have k5 := (hb.cell (p := ⟨W.heap.size, 5, none⟩) (by show W.heap.size < _; omega)).trans k5
            have kz : ∀ o, wv.frozen? ⟨W.heap.size, o, none⟩ = false := fun o => (World.frozen?_of_block (hb.block _ (by show W.heap.size < _; omega))).trans (kz o)
            have HRM := Lib.hid hrm
            have HBM := Lib.hid hb
            clear hrm hb)
         | (refine (HCM.out _ HCUR.out.drew).mono ?_; rintro e wu ⟨sm, rfl, hrm, hb0⟩
            have hb : Below W2.heap.size W2 wu := ⟨hb0.os, hb0.tape, hb0.output, hb0.size, hb0.block⟩
            clear hb0
            have hlt : W.heap.size < wu.heap.size := by have := hb.size; omega
            have hsz3 : W.heap.size + 2 ≤ wu.heap.size := by have := hb.size; omega
            have k4 := (hb.cell (p := ⟨W.heap.size, 4, none⟩) (by show W.heap.size < _; omega)).trans k4
            have k5 := (hb.cell (p := ⟨W.heap.size, 5, none⟩) (by show W.heap.size < _; omega)).trans k5
            have kz : ∀ o, wu.frozen? ⟨W.heap.size, o, none⟩ = false := fun o => (World.frozen?_of_block (hb.block _ (by show W.heap.size < _; omega))).trans (kz o)
            have HCUR3 := Lib.hid (HCUR.out.trans (hb.mono HCUR.out.size))
            have HRM := Lib.hid hrm
            have HBM := Lib.hid hb
            clear hrm hb)))
    all_goals
      go_wp2_with fail
      go_meet
      first
      | (refine ⟨sl, sm, mid_close HCUR.out hsz HX2.out HR2.out (HBL.out.trans (HBM.out.mono HBL.out.size)) ((HRL.out.same HBM.out.size (fun g hg _ => HBM.out.block g hg)).mono (fun g _ h => h)) (HRM.out.mono (fun g _ h => Nat.le_trans HBL.out.size h)) (fun r h1 h2 => ?_)⟩
         have e1 := (HRL.out.at h1).2.1
         have e2 := (HRM.out.at h2).1
         omega)
      | (refine ⟨sl, sm, mid_close HCUR.out hsz HX2.out HR2.out (HBM.out.trans (HBL.out.mono HBM.out.size)) (HRL.out.mono (fun g _ h => Nat.le_trans HBM.out.size h)) ((HRM.out.same HBL.out.size (fun g hg _ => HBL.out.block g hg)).mono (fun g _ h => h)) (fun r h1 h2 => ?_)⟩
         have e1 := (HRM.out.at h2).2.1
         have e2 := (HRL.out.at h1).1
         omega)
  case rest =>
    obtain ⟨sl, sm, hmid⟩ := hcut
    have HMID := Lib.hid hmid
    clear HCV HCM HX2 HR2 HCUR k4 k5 kz hmid
    have hbox := HMID.out.box
    have k4 : wc.cell? ⟨W.heap.size, 4, none⟩ = some (.slice sl.a sl.n sl.c) := by simp [World.cell?, hbox]
    have hxl : sl.n = xs.length := by have := HMID.out.rowL.1; simpa using this
    have hx6 : xs.length ≤ 1000000 := by have := HMID.out.rowL.2.1; simpa using this
    have hlt0 : W.heap.size + 1 < wc.heap.size := (Array.getElem?_eq_some_iff.1 HMID.out.res).1
    clear hbox
    go_wp2_with fail
    go_loopw [18] (fun c wr => ∃ (k : Nat) (ys : List V6), k ≤ xs.length ∧ c = .int .i64 k ∧ CL1 W x L xs ms sl sm wc.heap.size k ys wr) (fun c _ => xs.length - (intOf c).toNat)
    case atStart => exact ⟨0, xs, by omega, rfl, HMID.out, rfl, fun j y v hj => absurd hj (by omega), fun j _ => rfl, Nat.le_refl _, fun r h => (HMID.out.rowL.at h).2.1, fun r h => (HMID.out.rowM.at h).2.1⟩
    case round =>
      obtain ⟨k, ys, hk, rfl, hcl⟩ := hrel
      have HCL := Lib.hid hcl
      clear HMID k4 hcl
      by_cases hlt : k < xs.length
      · have hy : xs[k]? = some xs[k] := List.getElem?_eq_getElem hlt
        generalize xs[k] = y at hy
        have hy2 : ys[k]? = some y := (HCL.out.old k (Nat.le_refl _)).trans hy
        have hv : L[k]? = some L[k] := List.getElem?_eq_getElem (by have := HLL.out; omega)
        generalize L[k] = v at hv
        have hyc : (vcells ys)[k]? = some y.cells.toList := by simp [hy2]
        have hmid := HCL.out.mid
        obtain ⟨r, ha⟩ : ∃ r, sl.a = some ⟨r, 0, none⟩ := by
          rcases hmid.rowL.2.2 with ⟨hs, hn⟩ | ⟨r, h1, _⟩
          · have := congrArg List.length hn; simp at this; have := HCL.out.len; rw [‹ys = []›] at this; simp at this; omega
          · exact ⟨r, h1⟩
        obtain ⟨hrP, hrl, hrw⟩ := hmid.rowL.at ha
        have c0 : wr.cell? ⟨r, k * 6, none⟩ = some (.int .i64 y.kind) := hrw.cell (d := 0) hyc rfl
        have c1 : wr.cell? ⟨r, k * 6 + 1, none⟩ = some (.bool y.yes) := hrw.cell (d := 1) hyc rfl
        have c2 : wr.cell? ⟨r, k * 6 + 2, none⟩ = some (.int .i64 y.int) := hrw.cell (d := 2) hyc rfl
        have c3 : wr.cell? ⟨r, k * 6 + 3, none⟩ = some (.string y.text) := hrw.cell (d := 3) hyc rfl
        have c4 : wr.cell? ⟨r, k * 6 + 4, none⟩ = some (.slice y.list.a y.list.n y.list.c) := hrw.cell (d := 4) hyc rfl
        have c5 : wr.cell? ⟨r, k * 6 + 5, none⟩ = some (.slice y.map.a y.map.n y.map.c) := hrw.cell (d := 5) hyc rfl
        have hfz := fun o => hrw.frozen o
        have k4 : wr.cell? ⟨W.heap.size, 4, none⟩ = some (.slice (some ⟨r, 0, none⟩) sl.n sl.c) := by rw [← ha]; simp [World.cell?, hmid.box]
        have HB := Lib.hid hmid.below
        have hltr := (Array.getElem?_eq_some_iff.1 hmid.box).1
        have HRW := Lib.hid hrw
        have HY := Lib.hid hy
        have HV := Lib.hid hv
        have HY2 := Lib.hid hy2
        have HC := Lib.hid (HIH1.out k y v hy hv)
        have HAA := Lib.hid ha
        rw [ha]
        clear hy hv hy2 hyc hmid hrw ha
        go_wp2_with fail
        go_region_law (go_simp; go_at_call 26; refine (CopyOk.at HC.out HWS.out HWB.out (HB.out.alloc HB.out.size _).drew).mono ?_; rintro e wv ⟨y', rfl, hrep, hb0, _⟩
                       have hb : Below wr.heap.size wr wv := (Below.alloc (Below.refl wr.heap.size wr) (Nat.le_refl _) _).trans ⟨hb0.os, hb0.tape, hb0.output, hb0.size, fun g hg => hb0.block g (by simp; omega)⟩
                       have k4 := (hb.cell (p := ⟨W.heap.size, 4, none⟩) (by show W.heap.size < _; omega)).trans k4
                       have c0 := (hb.cell (p := ⟨r, k * 6, none⟩) (by show r < _; omega)).trans c0
                       have c1 := (hb.cell (p := ⟨r, k * 6 + 1, none⟩) (by show r < _; omega)).trans c1
                       have c2 := (hb.cell (p := ⟨r, k * 6 + 2, none⟩) (by show r < _; omega)).trans c2
                       have c3 := (hb.cell (p := ⟨r, k * 6 + 3, none⟩) (by show r < _; omega)).trans c3
                       have c4 := (hb.cell (p := ⟨r, k * 6 + 4, none⟩) (by show r < _; omega)).trans c4
                       have c5 := (hb.cell (p := ⟨r, k * 6 + 5, none⟩) (by show r < _; omega)).trans c5
                       have hfz : ∀ o, wv.frozen? ⟨r, o, none⟩ = false := fun o => (World.frozen?_of_block (hb.block _ (by show r < _; omega))).trans (hfz o)
                       have HREP := Lib.hid hrep
                       have HBB := Lib.hid hb
                       clear hrep hb hb0)
        all_goals
          go_wp2_with fail
          exact ⟨⟨k + 1, ys.set k y', by omega, by go_num, HCL.out.step hlt HV.out HAA.out HBB.out (by simp) HREP.out⟩, by simp [intOf]; omega⟩
      · obtain rfl : k = xs.length := by omega
        have hc2 : CL2 W x L M ms sl sm wc.heap.size 0 ys ms wr := HCL.out.done HLL.out
        have HC2 := Lib.hid hc2
        have hbox := hc2.mid.box
        have k5 : wr.cell? ⟨W.heap.size, 5, none⟩ = some (.slice sm.a sm.n sm.c) := by simp [World.cell?, hbox]
        have hxm : sm.n = ms.length := by have := hc2.mid.rowM.1; simpa using this
        have hm6 : ms.length ≤ 1000000 := by have := hc2.mid.rowM.2.1; simpa using this
        clear hbox hc2 HCL
        go_wp2_with fail
        go_loopw [33] (fun c wr => ∃ (k : Nat) (zs : List Mb), k ≤ ms.length ∧ c = .int .i64 k ∧ CL2 W x L M ms sl sm wc.heap.size k ys zs wr) (fun c _ => ms.length - (intOf c).toNat)
        case atStart => exact ⟨0, ms, by omega, rfl, HC2.out⟩
        case round =>
          obtain ⟨k, zs, hk, rfl, hcl⟩ := hrel
          have HCL := Lib.hid hcl
          clear HC2 k5 hcl
          by_cases hlt : k < ms.length
          · have hy : ms[k]? = some ms[k] := List.getElem?_eq_getElem hlt
            generalize ms[k] = m at hy
            have hy2 : zs[k]? = some m := (HCL.out.old k (Nat.le_refl _)).trans hy
            have hv : M[k]? = some M[k] := List.getElem?_eq_getElem (by have := HLM.out; omega)
            generalize M[k] = kv at hv
            have hyc : (mcells zs)[k]? = some m.cells.toList := by simp [hy2]
            have hmid := HCL.out.mid
            obtain ⟨r, ha⟩ : ∃ r, sm.a = some ⟨r, 0, none⟩ := by
              rcases hmid.rowM.2.2 with ⟨hs, hn⟩ | ⟨r, h1, _⟩
              · have := congrArg List.length hn; simp at this; have := HCL.out.len; rw [‹zs = []›] at this; simp at this; omega
              · exact ⟨r, h1⟩
            obtain ⟨hrP, hrl, hrw⟩ := hmid.rowM.at ha
            have c0 : wr.cell? ⟨r, k * 7, none⟩ = some (.string m.key) := hrw.cell (d := 0) hyc rfl
            have c1 : wr.cell? ⟨r, k * 7 + 1, none⟩ = some (.int .i64 m.v.kind) := hrw.cell (d := 1) hyc rfl
            have c2 : wr.cell? ⟨r, k * 7 + 2, none⟩ = some (.bool m.v.yes) := hrw.cell (d := 2) hyc rfl
            have c3 : wr.cell? ⟨r, k * 7 + 3, none⟩ = some (.int .i64 m.v.int) := hrw.cell (d := 3) hyc rfl
            have c4 : wr.cell? ⟨r, k * 7 + 4, none⟩ = some (.string m.v.text) := hrw.cell (d := 4) hyc rfl
            have c5 : wr.cell? ⟨r, k * 7 + 5, none⟩ = some (.slice m.v.list.a m.v.list.n m.v.list.c) := hrw.cell (d := 5) hyc rfl
            have c6 : wr.cell? ⟨r, k * 7 + 6, none⟩ = some (.slice m.v.map.a m.v.map.n m.v.map.c) := hrw.cell (d := 6) hyc rfl
            have hfz := fun o => hrw.frozen o
            have k5 : wr.cell? ⟨W.heap.size, 5, none⟩ = some (.slice (some ⟨r, 0, none⟩) sm.n sm.c) := by rw [← ha]; simp [World.cell?, hmid.box]
            have HB := Lib.hid hmid.below
            have hltr := (Array.getElem?_eq_some_iff.1 hmid.box).1
            have HV := Lib.hid hv
            have HY2 := Lib.hid hy2
            have HC := Lib.hid (HIH2.out k m kv hy hv)
            have HAA := Lib.hid ha
            rw [ha]
            clear hy hv hy2 hyc hmid hrw ha
            go_wp2_with fail
            go_region_law (go_simp; go_at_call 26; refine (CopyOk.at HC.out HWS.out HWB.out (HB.out.alloc HB.out.size _).drew).mono ?_; rintro e wv ⟨y', rfl, hrep, hb0, _⟩
                           have hb : Below wr.heap.size wr wv := (Below.alloc (Below.refl wr.heap.size wr) (Nat.le_refl _) _).trans ⟨hb0.os, hb0.tape, hb0.output, hb0.size, fun g hg => hb0.block g (by simp; omega)⟩
                           have k5 := (hb.cell (p := ⟨W.heap.size, 5, none⟩) (by show W.heap.size < _; omega)).trans k5
                           have c0 := (hb.cell (p := ⟨r, k * 7, none⟩) (by show r < _; omega)).trans c0
                           have c1 := (hb.cell (p := ⟨r, k * 7 + 1, none⟩) (by show r < _; omega)).trans c1
                           have c2 := (hb.cell (p := ⟨r, k * 7 + 2, none⟩) (by show r < _; omega)).trans c2
                           have c3 := (hb.cell (p := ⟨r, k * 7 + 3, none⟩) (by show r < _; omega)).trans c3
                           have c4 := (hb.cell (p := ⟨r, k * 7 + 4, none⟩) (by show r < _; omega)).trans c4
                           have c5 := (hb.cell (p := ⟨r, k * 7 + 5, none⟩) (by show r < _; omega)).trans c5
                           have c6 := (hb.cell (p := ⟨r, k * 7 + 6, none⟩) (by show r < _; omega)).trans c6
                           have hfz : ∀ o, wv.frozen? ⟨r, o, none⟩ = false := fun o => (World.frozen?_of_block (hb.block _ (by show r < _; omega))).trans (hfz o)
                           have HREP := Lib.hid hrep
                           have HBB := Lib.hid hb
                           clear hrep hb hb0)
            all_goals
              go_wp2_with fail
              exact ⟨⟨k + 1, zs.set k ⟨m.key, y'⟩, by omega, by go_num, HCL.out.step HY2.out HV.out HAA.out HBB.out (by simp) HREP.out⟩, by simp [intOf]; omega⟩
          · obtain rfl : k = ms.length := by omega
            have HREP := Lib.hid (HCL.out.done HLM.out HK.out (by omega))
            have HDEEP := Lib.hid (HCL.out.deep HLM.out HK.out)
            have hbox := HCL.out.mid.box
            have hres := HCL.out.mid.res
            have b0 : wr.cell? ⟨W.heap.size, 0, none⟩ = some (.int .i64 x.kind) := by simp [World.cell?, hbox]
            have b1 : wr.cell? ⟨W.heap.size, 1, none⟩ = some (.bool x.yes) := by simp [World.cell?, hbox]
            have b2 : wr.cell? ⟨W.heap.size, 2, none⟩ = some (.int .i64 x.int) := by simp [World.cell?, hbox]
            have b3 : wr.cell? ⟨W.heap.size, 3, none⟩ = some (.string x.text) := by simp [World.cell?, hbox]
            have b4 : wr.cell? ⟨W.heap.size, 4, none⟩ = some (.slice sl.a sl.n sl.c) := by simp [World.cell?, hbox]
            have b5 : wr.cell? ⟨W.heap.size, 5, none⟩ = some (.slice sm.a sm.n sm.c) := by simp [World.cell?, hbox]
            have z0 : wr.cell? ⟨W.heap.size + 1, 0, none⟩ = some (.int .i64 0) := by simp [World.cell?, hres]
            have z1 : wr.cell? ⟨W.heap.size + 1, 1, none⟩ = some (.bool false) := by simp [World.cell?, hres]
            have z2 : wr.cell? ⟨W.heap.size + 1, 2, none⟩ = some (.int .i64 0) := by simp [World.cell?, hres]
            have z3 : wr.cell? ⟨W.heap.size + 1, 3, none⟩ = some (.string ⟨#[]⟩) := by simp [World.cell?, hres]
            have z4 : wr.cell? ⟨W.heap.size + 1, 4, none⟩ = some (.slice none 0 0) := by simp [World.cell?, hres]
            have z5 : wr.cell? ⟨W.heap.size + 1, 5, none⟩ = some (.slice none 0 0) := by simp [World.cell?, hres]
            have hfz : ∀ o, wr.frozen? ⟨W.heap.size + 1, o, none⟩ = false := fun o => by simp [World.frozen?, hres]
            have hrl := (Array.getElem?_eq_some_iff.1 hres).1
            have HB := Lib.hid HCL.out.mid.below
            have HRES := Lib.hid hres
            clear hbox hres HCL HIH1 HIH2
            go_wp2_with fail
            have hend : (((((((wr.setCell ⟨W.heap.size + 1, 0, none⟩ (.int .i64 x.kind)).setCell ⟨W.heap.size + 1, 1, none⟩ (.bool x.yes)).setCell ⟨W.heap.size + 1, 2, none⟩ (.int .i64 x.int)).setCell ⟨W.heap.size + 1, 3, none⟩ (.string x.text)).setCell ⟨W.heap.size + 1, 4, none⟩ (.slice sl.a xs.length sl.c)).setCell ⟨W.heap.size + 1, 5, none⟩ (.slice sm.a ms.length sm.c))).heap[W.heap.size + 1]? = some (.cells #[.int .i64 x.kind, .bool x.yes, .int .i64 x.int, .string x.text, .slice sl.a xs.length sl.c, .slice sm.a ms.length sm.c] 44 (0, 0)) := by
              rw [setCell_heap_at (setCell_heap_at (setCell_heap_at (setCell_heap_at (setCell_heap_at (setCell_heap_at HRES.out)))))]
              rfl
            refine bodyPost_ret (results_cell_row rfl _ _ (W.heap.size + 1) 44 #[.int .i64 x.kind, .bool x.yes, .int .i64 x.int, .string x.text, .slice sl.a xs.length sl.c, .slice sm.a ms.length sm.c] (0, 0) _ rfl hend Tryz.underlying44 rfl (by kernel_rfl)) rfl ?_
            have HREP2 : RepV wr (fun g => W.heap.size + 2 ≤ g) ⟨x.kind, x.yes, x.int, x.text, ⟨sl.a, xs.length, sl.c⟩, ⟨sm.a, ms.length, sm.c⟩⟩ (.mk x.kind x.yes x.int x.text L M) := by rw [← hxl, ← hxm]; exact HREP.out
            have hst := HREP2.stored (W.heap.size + 1) 0 (#[Value.int .i64 x.kind, .bool x.yes, .int .i64 x.int, .string x.text, .slice sl.a xs.length sl.c, .slice sm.a ms.length sm.c] : Array Value).toList (by omega)
            refine ⟨⟨x.kind, x.yes, x.int, x.text, ⟨sl.a, xs.length, sl.c⟩, ⟨sm.a, ms.length, sm.c⟩⟩, rfl, hst.mono (fun g _ hg => by omega), ?_, ?_⟩
            rotate_left
            · have hdp : RepN wr (W.heap.size + 2) wc.heap.size ⟨x.kind, x.yes, x.int, x.text, ⟨sl.a, xs.length, sl.c⟩, ⟨sm.a, ms.length, sm.c⟩⟩ L M ys zs := by rw [← hxl, ← hxm]; exact HDEEP.out
              have hdp2 := hdp.stored (by omega) (W.heap.size + 1) 0 (#[Value.int .i64 x.kind, .bool x.yes, .int .i64 x.int, .string x.text, .slice sl.a xs.length sl.c, .slice sm.a ms.length sm.c] : Array Value).toList (by omega)
              exact ⟨wc.heap.size, L, M, ys, zs, by omega, rfl, ⟨hdp2.rowL.mono (fun g _ hg => by omega), hdp2.rowM.mono (fun g _ hg => by omega), hdp2.apart, hdp2.lenL, hdp2.lenM, hdp2.elL, hdp2.keyM, hdp2.elM⟩⟩
            have hg := setCells_grown (W.heap.size + 1) (#[Value.int .i64 x.kind, .bool x.yes, .int .i64 x.int, .string x.text, .slice sl.a xs.length sl.c, .slice sm.a ms.length sm.c] : Array Value).toList 0 wr
            exact HB.out.grown hg HB.out.size (fun j hj => by injection hj with hj; omega)

theorem copy_ok {w : World} {P : Nat → Prop} {x : V6} {v : V} (h : RepV w P x v) : CopyOk w P x v := by
  induction h with
  | mk x L M xs ms hL hM lenL lenM elL keyM elM ih1 ih2 => exact copy_step w P x L M xs ms hL hM lenL lenM keyM ih1 ih2
theorem copy_calls (w : World) (P : Nat → Prop) (x : V6) (v : V) (h : RepV w P x v) :
    Calls Tryz.prog 26 #[.agg x.cells] w fun e w' => ∃ x' : V6, e = .returned (.agg x'.cells) ∧ RepV w' (fun g => w.heap.size ≤ g) x' v ∧ Below w.heap.size w w' ∧ Deep w' w.heap.size x' v :=
  copy_ok h w (Nat.le_refl _) (fun _ _ _ => rfl)
end Go.Proofs.YtiehdfokcnphdaaGreatDoor
