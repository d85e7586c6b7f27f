/- The document's values that came in: opened, of whatever size. -/
import Derived.Test.YtgnoaeldmpbjmaaGreatDoorMM6
import Derived.Test.YtgnoaeldmpbjmaaGreatDoorRows
import Derived.WalkKit
import Derived.OpenShut
import Derived.ChangeMaps5
import Derived.SizedLaws
import Derived.Test.YtgnoaeldmpbjmaaGreatDoorMM4
import Derived.Test.YtgnoaeldmpbjmaaGreatDoorMM1
import Derived.Lib.Hide
import Derived.LoopTactic
import Derived.Outline
import Derived.Test.YtgnoaeldmpbjmaaGreatDoorProg
import Derived.Lib.LazyBuf
import Derived.Deep.QuietTactic
import Derived.BigQuiet
import Derived.Tactics
import Derived.KernelRfl
import Derived.Deep.LoopGhost
import Derived.Deep.DeepFit
import Derived.Laws.Rows
import Derived.Deep.DeepCutAuto
import Derived.Deep.CutBlock
import Derived.Deep.RegionHeld3
set_option linter.unusedVariables false
namespace Go.Proofs.YtgnoaeldmpbjmaaGreatDoor
open Go.RowKit Go.ChangeShapes Go.WideShapes

/-- Where a row's cell lies: the i-th element's d-th. -/
def at2 (ad : Addr) (k : Nat) : Nat → Addr
  | 0 => ad.add k
  | d + 1 => ⟨(ad.add k).block, (ad.add k).off + (d + 1), none⟩
theorem at2_block (ad : Addr) (k d : Nat) : (at2 ad k d).block = ad.block := by
  have h : (ad.add k).block = ad.block := by unfold Addr.add; split <;> rfl
  cases d with
  | zero => exact h
  | succ d => exact h
theorem at2_add (ad : Addr) (k d : Nat) : (ad.add k).add d = at2 ad k d := by
  cases d with
  | zero => unfold at2 Addr.add; simp
  | succ d => unfold at2; rw [Addr.add, if_neg (by omega)]
/-- A row that came in: n elements of sz cells, wherever. -/
def RowIn (K : Nat) (w : World) (sz : Nat) (s : Sl) (l : List (List Value)) : Prop :=
  s.n = l.length ∧ l.length ≤ K ∧ (∀ x ∈ l, x.length = sz) ∧ (0 < l.length → ∃ ad : Addr, s.a = some ad ∧ ad.block < w.heap.size ∧ ∀ (i d : Nat) (x : List Value) (u : Value), l[i]? = some x → x[d]? = some u → w.cell? (at2 ad (i * sz) d) = some u)
theorem RowIn.below {K : Nat} {B : Nat} {w w' : World} {sz : Nat} {s : Sl} {l : List (List Value)} (h : RowIn K w sz s l) (hb : Below B w w') (hB : B = w.heap.size) : RowIn K w' sz s l := by
  subst hB
  obtain ⟨h1, h2, h3, h4⟩ := h
  refine ⟨h1, h2, h3, fun hl => ?_⟩
  obtain ⟨ad, ha, hx, hc⟩ := h4 hl
  exact ⟨ad, ha, Nat.lt_of_lt_of_le hx hb.size, fun i d x u hi hd => (hb.cell (p := at2 ad (i * sz) d) (by rw [at2_block]; exact hx)).trans (hc i d x u hi hd)⟩
/-- Six cells that came in tell a value. -/
inductive RepI (w : World) : V6 → V → Prop where
  | mk (x : V6) (L : List V) (M : List (ByteArray × V)) (xs : List V6) (ms : List Mb)
    (ht : x.text.size ≤ 9223372036854775807) (hL : RowIn 1599289640401 w 6 x.list (vcells xs)) (hM : RowIn 1353245080339 w 7 x.map (mcells ms))
    (lenL : xs.length = L.length) (lenM : ms.length = M.length)
    (elL : ∀ (i : Nat) (y : V6) (v : V), xs[i]? = some y → L[i]? = some v → RepI w y v)
    (keyM : ∀ (i : Nat) (m : Mb) (kv : ByteArray × V), ms[i]? = some m → M[i]? = some kv → m.key = kv.1 ∧ m.key.size ≤ 9223372036854775807)
    (elM : ∀ (i : Nat) (m : Mb) (kv : ByteArray × V), ms[i]? = some m → M[i]? = some kv → RepI w m.v kv.2) :
    RepI w x (.mk x.kind x.yes x.int x.text L M)
theorem RepI.under {B : Nat} {w w' : World} {x : V6} {v : V} (h : RepI w x v) (hb : Below B w w') (hB : B = w.heap.size) : RepI w' x v := by
  induction h with
  | mk x L M xs ms ht hL hM lenL lenM elL keyM elM ih1 ih2 => exact .mk x L M xs ms ht (hL.below hb hB) (hM.below hb hB) lenL lenM ih1 keyM ih2

theorem collectG {α : Type} {Q : Nat → α → Prop} : ∀ len : Nat, (∀ i, i < len → ∃ y : α, Q i y) → ∃ l : List α, l.length = len ∧ ∀ (i : Nat) (y : α), l[i]? = some y → Q i y
  | 0, _ => ⟨[], rfl, by simp⟩
  | len + 1, h => by
    obtain ⟨l, hl, hall⟩ := collectG len (fun i hi => h i (by omega))
    obtain ⟨y, hy⟩ := h len (by omega)
    refine ⟨l ++ [y], by simp [hl], fun i z hz => ?_⟩
    by_cases hi : i < l.length
    · rw [List.getElem?_append_left hi] at hz
      exact hall i z hz
    · rw [List.getElem?_append_right (by omega)] at hz
      have hil : i = len := by
        have := (List.getElem?_eq_some_iff.1 hz).1
        simp at this; omega
      subst hil
      simp [hl] at hz
      subst hz
      exact hy
theorem weightsAll_at {H : Type} {P : Program} {e : TypeId} : ∀ {l : List (DataW H)} {d : DataW H}, d ∈ l → (DataW.weightsAll P e l).all (· ≤ reachBytes) = true → (d.weights P e).all (· ≤ reachBytes) = true
  | x :: r, d, hd, h => by
    unfold DataW.weightsAll at h
    rw [List.all_append, Bool.and_eq_true] at h
    rcases List.mem_cons.1 hd with rfl | hd
    · exact h.1
    · exact weightsAll_at hd h.2
theorem weightsEach_at {H : Type} {P : Program} : ∀ {ts : List TypeId} {l : List (DataW H)} {i : Nat} {t : TypeId} {d : DataW H}, ts[i]? = some t → l[i]? = some d → (DataW.weightsEach P ts l).all (· ≤ reachBytes) = true → (d.weights P t).all (· ≤ reachBytes) = true
  | t :: ts, d :: l, 0, t', d', ht, hd, h => by
    unfold DataW.weightsEach at h
    rw [List.all_append, Bool.and_eq_true] at h
    simp at ht hd
    subst ht hd
    exact h.1
  | t :: ts, d :: l, i + 1, t', d', ht, hd, h => by
    unfold DataW.weightsEach at h
    rw [List.all_append, Bool.and_eq_true] at h
    exact weightsEach_at (by simpa using ht) (by simpa using hd) h.2
  | [], _, _, _, _, ht, _, _ => by simp at ht
  | _ :: _, [], _, _, _, _, hd, _ => by simp at hd
/-- A slice that came in, opened. -/
theorem open_slice {H : Type} {enc : TypeId × Value → H} {W : World} {held : Bool} {S E : TypeId} {sz bytes K : Nat} {α : Type} (en : α → List Value) (Q : α → Prop) (hS : Tryz.prog.underlying S = some (.slice E)) (hsz : Tryz.prog.cellsOf E = sz) (hb : Tryz.prog.bytesOf E = bytes)
    (hK : ∀ n, n * bytes ≤ reachBytes → n ≤ K) (hlen : ∀ y, (en y).length = sz) (hpos : 0 < sz) {fuel : Nat} {cs : List Value} {x : DataW H × List MemPlace} (h : DataW.trod enc Tryz.prog W 0 (fun _ => true) held fuel S cs = some x) (hw : (x.1.weights Tryz.prog S).all (· ≤ reachBytes) = true)
    (hel : ∀ (n : Nat) (c : List Value) (y : DataW H × List MemPlace), n < fuel → DataW.trod enc Tryz.prog W 0 (fun _ => true) held n E c = some y → (y.1.weights Tryz.prog E).all (· ≤ reachBytes) = true → ∃ z, c = en z ∧ Q z) :
    ∃ (s : Sl) (zs : List α), cs = [s.val] ∧ RowIn K W sz s (zs.map en) ∧ (∀ z ∈ zs, Q z) ∧ (s.a = none → s.c = 0) := by
  rcases DataW.trod_slice hS h with ⟨hcs, hx⟩ | ⟨a, len, cap, elems, rest, n, hf, hcs, hx, _, hlc, hcm, hl, hget, _, _⟩
  · exact ⟨⟨none, 0, 0⟩, [], hcs, ⟨rfl, Nat.zero_le _, by simp, fun h => absurd h (by simp)⟩, by simp, fun _ => rfl⟩
  · subst hx
    dsimp only at hw
    unfold DataW.weights at hw
    rw [hS] at hw
    dsimp only at hw
    rw [List.all_cons, Bool.and_eq_true, List.all_append, Bool.and_eq_true, hb] at hw
    obtain ⟨hw1, hw2, _⟩ := hw
    have hlenK : len ≤ K := hK len (by
      have : (elems.length + rest.length) * bytes ≤ reachBytes := by simpa using hw1
      have h2 : elems.length * bytes ≤ (elems.length + rest.length) * bytes := Nat.mul_le_mul_right _ (by omega)
      rw [hl] at h2 this
      exact Nat.le_trans h2 this)
    have hone : ∀ i, i < len → ∃ z : α, Q z ∧ ∀ d u, (en z)[d]? = some u → W.cell? (at2 a (i * sz) d) = some u := by
      intro i hi
      have h1 := hget i hi
      rw [hsz, List.getElem?_eq_getElem (by omega)] at h1
      obtain ⟨c, hc, htr⟩ := Option.bind_eq_some_iff.1 h1
      obtain ⟨_, hcl, hcc⟩ := World.cells?_some hc
      obtain ⟨z, hz, hq⟩ := hel n c _ (by omega) htr (weightsAll_at (List.mem_map.2 ⟨_, List.getElem_mem _, rfl⟩) hw2)
      refine ⟨z, hq, fun d u hd => ?_⟩
      rw [← hz] at hd
      have hdl := (List.getElem?_eq_some_iff.1 hd).1
      have := hcc d (by omega)
      rw [at2_add] at this
      rw [this, hd]
    obtain ⟨zs, hzl, hzq⟩ := collectG len hone
    refine ⟨⟨some a, len, cap⟩, zs, hcs, ⟨by simp [hzl], by simpa [hzl] using hlenK, fun x hx => by obtain ⟨z, _, rfl⟩ := List.mem_map.1 hx; exact hlen z, fun hp => ⟨a, rfl, ?_, fun i d x u hi hd => ?_⟩⟩, fun z hz => ?_, fun h => by cases h⟩
    · have hz0 : zs[0]? = some (zs[0]'(by simpa using hp)) := List.getElem?_eq_getElem _
      have h2 := (hzq 0 _ hz0).2 0 ((en (zs[0]'(by simpa using hp)))[0]'(by rw [hlen]; exact hpos)) (List.getElem?_eq_getElem _)
      have := World.block_lt_of_cell? W _ h2
      rw [at2_block] at this
      exact this
    · rw [List.getElem?_map] at hi
      obtain ⟨z, hz, rfl⟩ := Option.map_eq_some_iff.1 hi
      exact (hzq i z hz).2 d u hd
    · obtain ⟨i, hi⟩ := List.mem_iff_getElem?.1 hz
      exact (hzq i z hi).1

theorem cellsV : Tryz.prog.cellsOf 71 = 6 := by kernel_rfl
theorem cellsM : Tryz.prog.cellsOf 172 = 7 := by kernel_rfl
theorem bytesV : Tryz.prog.bytesOf 71 = 88 := by kernel_rfl
theorem bytesM : Tryz.prog.bytesOf 172 = 104 := by kernel_rfl
theorem cells1 : Tryz.prog.cellsOf 3 = 1 ∧ Tryz.prog.cellsOf 4 = 1 ∧ Tryz.prog.cellsOf 9 = 1 ∧ Tryz.prog.cellsOf 68 = 1 ∧ Tryz.prog.cellsOf 69 = 1 := by refine ⟨?_, ?_, ?_, ?_, ?_⟩ <;> kernel_rfl
theorem list6 (l : List Value) (h : l.length = 6) : ∃ a b c d e f, l = [a, b, c, d, e, f] := by
  match l, h with
  | [a, b, c, d, e, f], _ => exact ⟨a, b, c, d, e, f, rfl⟩
theorem list7 (l : List Value) (h : l.length = 7) : ∃ a b c d e f g, l = [a, b, c, d, e, f, g] := by
  match l, h with
  | [a, b, c, d, e, f, g], _ => exact ⟨a, b, c, d, e, f, g, rfl⟩
set_option maxRecDepth 100000 in
/-- A value that came in, opened. -/
theorem open_v {H : Type} {enc : TypeId × Value → H} {W : World} {held : Bool} : ∀ (fuel : Nat) {cs : List Value} {x : DataW H × List MemPlace}, DataW.trod enc Tryz.prog W 0 (fun _ => true) held fuel 71 cs = some x → (x.1.weights Tryz.prog 71).all (· ≤ reachBytes) = true →
    ∃ (y : V6) (v : V), cs = y.cells.toList ∧ RepI W y v := by
  intro fuel
  induction fuel using Nat.strongRecOn with
  | _ fuel ih =>
    intro cs x h hw
    obtain ⟨xs, m, hfu, hx, hcl, hxl, hg⟩ := DataW.trod_struct Tryz.underlying71 h
    subst hx
    rw [cellsV] at hcl
    obtain ⟨c0, c1, c2, c3, c4, c5, rfl⟩ := list6 cs hcl
    have hxl6 : xs.length = 6 := hxl
    dsimp only at hw
    unfold DataW.weights at hw
    rw [Tryz.underlying71] at hw
    dsimp only at hw
    have g0 : DataW.trod enc Tryz.prog W 0 (fun _ => true) held m 3 (([c0, c1, c2, c3, c4, c5].drop 0).take (Tryz.prog.cellsOf 3)) = xs[0]? := hg 0 _ rfl
    have g1 : DataW.trod enc Tryz.prog W 0 (fun _ => true) held m 4 (([c0, c1, c2, c3, c4, c5].drop 1).take (Tryz.prog.cellsOf 4)) = xs[1]? := hg 1 _ rfl
    have g2 : DataW.trod enc Tryz.prog W 0 (fun _ => true) held m 3 (([c0, c1, c2, c3, c4, c5].drop 2).take (Tryz.prog.cellsOf 3)) = xs[2]? := hg 2 _ rfl
    have g3 : DataW.trod enc Tryz.prog W 0 (fun _ => true) held m 9 (([c0, c1, c2, c3, c4, c5].drop 3).take (Tryz.prog.cellsOf 9)) = xs[3]? := hg 3 _ rfl
    have g4 : DataW.trod enc Tryz.prog W 0 (fun _ => true) held m 68 (([c0, c1, c2, c3, c4, c5].drop 4).take (Tryz.prog.cellsOf 68)) = xs[4]? := hg 4 _ rfl
    have g5 : DataW.trod enc Tryz.prog W 0 (fun _ => true) held m 69 (([c0, c1, c2, c3, c4, c5].drop 5).take (Tryz.prog.cellsOf 69)) = xs[5]? := hg 5 _ rfl
    obtain ⟨n1, n2, n3, n4, n5⟩ := cells1
    rw [n1, List.getElem?_eq_getElem (by omega)] at g0 g2
    rw [n2, List.getElem?_eq_getElem (by omega)] at g1
    rw [n3, List.getElem?_eq_getElem (by omega)] at g3
    rw [n4, List.getElem?_eq_getElem (by omega)] at g4
    rw [n5, List.getElem?_eq_getElem (by omega)] at g5
    obtain ⟨z0, e0, _⟩ := DataW.trod_int Tryz.underlying3 g0
    obtain ⟨z1, e1, _⟩ := DataW.trod_bool Tryz.underlying4 g1
    obtain ⟨z2, e2, _⟩ := DataW.trod_int Tryz.underlying3 g2
    obtain ⟨z3, e3, _, s3⟩ := DataW.trod_string Tryz.underlying9 g3
    simp at e0 e1 e2 e3
    subst e0 e1 e2 e3
    have w4 := weightsEach_at (i := 4) (t := 68) (d := xs[4].1) rfl (by rw [List.getElem?_map, List.getElem?_eq_getElem (by omega)]; rfl) hw
    have w5 := weightsEach_at (i := 5) (t := 69) (d := xs[5].1) rfl (by rw [List.getElem?_map, List.getElem?_eq_getElem (by omega)]; rfl) hw
    obtain ⟨sl, zl, el, hrl, hql, _⟩ := open_slice (K := 1599289640401) (fun p : V6 × V => p.1.cells.toList) (fun p => RepI W p.1 p.2) Tryz.underlying68 cellsV bytesV (fun n h => by unfold reachBytes at h; omega) (fun y => rfl) (by omega) g4 w4
      (fun n c y hn ht hwy => by
        obtain ⟨y6, v, hc, hr⟩ := ih n (by omega) ht hwy
        exact ⟨(y6, v), hc, hr⟩)
    obtain ⟨sm, zm, em, hrm, hqm, _⟩ := open_slice (K := 1353245080339) (fun p : Mb × (ByteArray × V) => p.1.cells.toList) (fun p => (p.1.key = p.2.1 ∧ p.1.key.size ≤ 9223372036854775807) ∧ RepI W p.1.v p.2.2) Tryz.underlying69 cellsM bytesM (fun n h => by unfold reachBytes at h; omega) (fun y => rfl) (by omega) g5 w5
      (fun n c y hn ht hwy => by
        obtain ⟨ys, k, hku, hy, hcl2, hyl, hg2⟩ := DataW.trod_struct Tryz.underlying172 ht
        subst hy
        rw [cellsM] at hcl2
        obtain ⟨a0, a1, a2, a3, a4, a5, a6, rfl⟩ := list7 c hcl2
        have hyl2 : ys.length = 2 := hyl
        have q0 : DataW.trod enc Tryz.prog W 0 (fun _ => true) held k 9 (([a0, a1, a2, a3, a4, a5, a6].drop 0).take (Tryz.prog.cellsOf 9)) = ys[0]? := hg2 0 _ rfl
        have q1 : DataW.trod enc Tryz.prog W 0 (fun _ => true) held k 71 (([a0, a1, a2, a3, a4, a5, a6].drop 1).take (Tryz.prog.cellsOf 71)) = ys[1]? := hg2 1 _ rfl
        rw [n3, List.getElem?_eq_getElem (by omega)] at q0
        rw [cellsV, List.getElem?_eq_getElem (by omega)] at q1
        obtain ⟨key, ek, _, sk⟩ := DataW.trod_string Tryz.underlying9 q0
        simp at ek
        subst ek
        dsimp only at hwy
        unfold DataW.weights at hwy
        rw [Tryz.underlying172] at hwy
        dsimp only at hwy
        have wv := weightsEach_at (i := 1) (t := 71) (d := ys[1].1) rfl (by rw [List.getElem?_map, List.getElem?_eq_getElem (by omega)]; rfl) hwy
        obtain ⟨y6, v, hc, hr⟩ := ih k (by omega) q1 wv
        obtain ⟨k6, y6', i6, t6, l6, m6⟩ := y6
        simp at hc
        obtain ⟨rfl, rfl, rfl, rfl, rfl, rfl⟩ := hc
        exact ⟨(⟨key, ⟨k6, y6', i6, t6, l6, m6⟩⟩, (key, v)), rfl, ⟨rfl, by unfold maxLen at sk; exact sk⟩, hr⟩)
    simp at el em
    subst el em
    refine ⟨⟨z0, z1, z2, z3, sl, sm⟩, _, rfl, .mk ⟨z0, z1, z2, z3, sl, sm⟩ (zl.map (·.2)) (zm.map (·.2)) (zl.map (·.1)) (zm.map (·.1)) (by unfold maxLen at s3; exact s3) ?_ ?_ (by simp) (by simp) ?_ ?_ ?_⟩
    · show RowIn _ _ _ _ (List.map _ (zl.map (·.1)))
      rw [List.map_map]
      exact hrl
    · show RowIn _ _ _ _ (List.map _ (zm.map (·.1)))
      rw [List.map_map]
      exact hrm
    · intro i y v h1 h2
      rw [List.getElem?_map] at h1 h2
      obtain ⟨p, hp, rfl⟩ := Option.map_eq_some_iff.1 h1
      rw [hp] at h2
      simp at h2
      subst h2
      exact hql p (List.mem_of_getElem? hp)
    · intro i y kv h1 h2
      rw [List.getElem?_map] at h1 h2
      obtain ⟨p, hp, rfl⟩ := Option.map_eq_some_iff.1 h1
      rw [hp] at h2
      simp at h2
      subst h2
      exact (hqm p (List.mem_of_getElem? hp)).1
    · intro i y kv h1 h2
      rw [List.getElem?_map] at h1 h2
      obtain ⟨p, hp, rfl⟩ := Option.map_eq_some_iff.1 h1
      rw [hp] at h2
      simp at h2
      subst h2
      exact (hqm p (List.mem_of_getElem? hp)).2
end Go.Proofs.YtgnoaeldmpbjmaaGreatDoor
/- How much there is of a value that came in: some number. -/
set_option linter.unusedVariables false
set_option linter.unusedSimpArgs false
namespace Go.Proofs.YtgnoaeldmpbjmaaGreatDoor
open Go.RowKit

set_option maxRecDepth 100000 in
set_option maxHeartbeats 4000000 in
theorem size_ok {w : World} {x : V6} {v : V} (h : RepI w x v) : ∀ W, Below w.heap.size w W → Calls Tryz.prog 74 #[.agg x.cells] W fun e w' => (∃ n : Int, e = .returned (.int .i64 n)) ∧ Below W.heap.size W w' := by
  induction h with
  | mk x L M xs ms ht hL hM lenL lenM elL keyM elM ih1 ih2 =>
    intro W hbW
    have hnl : x.list.n = xs.length := by have := hL.1; simpa using this
    have hnm : x.map.n = ms.length := by have := hM.1; simpa using this
    have hkl : xs.length ≤ 1599289640401 := by have := hL.2.1; simpa using this
    have hkm : ms.length ≤ 1353245080339 := by have := hM.2.1; simpa using this
    have HL := Lib.hid hL.2.2.2
    have HM := Lib.hid hM.2.2.2
    have HI1 := Lib.hid ih1
    have HI2 := Lib.hid ih2
    have HLL := Lib.hid lenL
    have HLM := Lib.hid lenM
    have HKM := Lib.hid keyM
    have HBW := Lib.hid hbW
    obtain ⟨xk, xy, xi, xt, ⟨la, ln, lc⟩, ⟨ma, mn, mc⟩⟩ := x
    dsimp only at hnl hnm
    subst hnl hnm
    clear hL hM ih1 ih2 lenL lenM elL keyM elM hbW
    go_enter Tryz.func74, Tryz.ntmps74
    go_wp2_with fail
    have hx0 : (W.alloc (.cells #[.int .i64 xk, .bool xy, .int .i64 xi, .string xt, .slice la xs.length lc, .slice ma ms.length mc] 71)).heap[W.heap.size]? = some (.cells #[.int .i64 xk, .bool xy, .int .i64 xi, .string xt, .slice la xs.length lc, .slice ma ms.length mc] 71 (0, 0)) := heap_new_at _ _ _ rfl
    have hb0 : Below W.heap.size W (W.alloc (.cells #[.int .i64 xk, .bool xy, .int .i64 xi, .string xt, .slice la xs.length lc, .slice ma ms.length mc] 71)) := (Below.refl _ _).alloc (Nat.le_refl _) _
    have HX0 := Lib.hid hx0
    have HB0 := Lib.hid hb0
    clear hx0 hb0
    go_loopw [3, 16] (fun c3 c16 wr => ∃ (k : Nat) (n : Int), k ≤ xs.length ∧ c16 = .int .i64 k ∧ c3 = .int .i64 n ∧ Below W.heap.size W wr ∧ wr.heap[W.heap.size]? = some (.cells #[.int .i64 xk, .bool xy, .int .i64 xi, .string xt, .slice la xs.length lc, .slice ma ms.length mc] 71 (0, 0))) (fun _ c16 _ => xs.length - (intOf c16).toNat)
    case atStart => exact ⟨0, _, by omega, rfl, rfl, HB0.out, HX0.out⟩
    case round =>
      obtain ⟨k, n, hk, rfl, rfl, hb, hx⟩ := hrel
      by_cases hlt : k < xs.length
      · obtain ⟨ad, hla, hadl, hcell⟩ := HL.out (by simpa using (by omega : 0 < xs.length))
        have hy : xs[k]? = some xs[k] := List.getElem?_eq_getElem hlt
        obtain ⟨vv, hvv⟩ : ∃ vv, L[k]? = some vv := ⟨_, List.getElem?_eq_getElem (by rw [← HLL.out]; exact hlt)⟩
        generalize xs[k] = y at hy
        have HC := Lib.hid (fun (W' : World) (h : Below w.heap.size w W') => HI1.out k y vv hy hvv W' h)
        have hrow : (vcells xs)[k]? = some y.cells.toList := by simp [vcells, hy]
        have hbr : Below w.heap.size w wr := HBW.out.trans (hb.mono HBW.out.size)
        have y0 : wr.cell? (ad.add (k * 6)) = some (.int .i64 y.kind) := (hbr.cell (p := at2 ad (k * 6) 0) (by rw [at2_block]; exact hadl)).trans (hcell k 0 _ _ hrow rfl)
        have y1 : wr.cell? ⟨(ad.add (k * 6)).block, (ad.add (k * 6)).off + 1, none⟩ = some (.bool y.yes) := (hbr.cell (p := at2 ad (k * 6) 1) (by rw [at2_block]; exact hadl)).trans (hcell k 1 _ _ hrow rfl)
        have y2 : wr.cell? ⟨(ad.add (k * 6)).block, (ad.add (k * 6)).off + 2, none⟩ = some (.int .i64 y.int) := (hbr.cell (p := at2 ad (k * 6) 2) (by rw [at2_block]; exact hadl)).trans (hcell k 2 _ _ hrow rfl)
        have y3 : wr.cell? ⟨(ad.add (k * 6)).block, (ad.add (k * 6)).off + 3, none⟩ = some (.string y.text) := (hbr.cell (p := at2 ad (k * 6) 3) (by rw [at2_block]; exact hadl)).trans (hcell k 3 _ _ hrow rfl)
        have y4 : wr.cell? ⟨(ad.add (k * 6)).block, (ad.add (k * 6)).off + 4, none⟩ = some (.slice y.list.a y.list.n y.list.c) := (hbr.cell (p := at2 ad (k * 6) 4) (by rw [at2_block]; exact hadl)).trans (hcell k 4 _ _ hrow rfl)
        have y5 : wr.cell? ⟨(ad.add (k * 6)).block, (ad.add (k * 6)).off + 5, none⟩ = some (.slice y.map.a y.map.n y.map.c) := (hbr.cell (p := at2 ad (k * 6) 5) (by rw [at2_block]; exact hadl)).trans (hcell k 5 _ _ hrow rfl)
        have HB := Lib.hid hb
        have HX := Lib.hid hx
        have HBR := Lib.hid hbr
        have hadr : ad.block < wr.heap.size := Nat.lt_of_lt_of_le hadl hbr.size
        subst hla
        clear hy hvv hrow hcell hb hx hbr
        go_wp2_with fail
        have hbA : Below wr.heap.size wr (wr.alloc (.cells #[.int .i64 y.kind, .bool y.yes, .int .i64 y.int, .string y.text, .slice y.list.a y.list.n y.list.c, .slice y.map.a y.map.n y.map.c] 71)) := (Below.refl _ _).alloc (Nat.le_refl _) _
        refine (HC.out _ (HBR.out.trans (hbA.mono HBR.out.size))).mono ?_
        rintro e wz ⟨⟨nz, rfl⟩, hbz⟩
        have hbz' := hbA.trans (hbz.mono (by simp))
        have HBZ := Lib.hid (HB.out.trans (hbz'.mono HB.out.size))
        have HXZ := Lib.hid ((hbz'.block _ (blk_lt HX.out)).trans HX.out)
        clear hbA hbz hbz'
        go_wp2_with fail
        exact ⟨⟨k + 1, _, by omega, by go_num, rfl, HBZ.out, HXZ.out⟩, by simp [intOf]; omega⟩
      · obtain rfl : k = xs.length := by omega
        have x5 := cell_at (j := 5) hx rfl
        have HB := Lib.hid hb
        obtain ⟨w1, hw1⟩ : ∃ wn : World, wn = wr := ⟨_, rfl⟩
        subst hw1
        clear hb hx
        go_wp2_with fail
        go_loopw [3, 28] (fun c3 c28 wr => ∃ (k : Nat) (n : Int), k ≤ ms.length ∧ c28 = .int .i64 k ∧ c3 = .int .i64 n ∧ Below W.heap.size W wr) (fun _ c28 _ => ms.length - (intOf c28).toNat)
        case atStart => exact ⟨0, _, by omega, rfl, rfl, HB.out⟩
        case round =>
          obtain ⟨k, n, hk, rfl, rfl, hb⟩ := hrel
          by_cases hlt : k < ms.length
          · obtain ⟨ad, hla, hadl, hcell⟩ := HM.out (by simpa using (by omega : 0 < ms.length))
            have hy : ms[k]? = some ms[k] := List.getElem?_eq_getElem hlt
            obtain ⟨vv, hvv⟩ : ∃ vv, M[k]? = some vv := ⟨_, List.getElem?_eq_getElem (by rw [← HLM.out]; exact hlt)⟩
            generalize ms[k] = m at hy
            have HC := Lib.hid (fun (W' : World) (h : Below w.heap.size w W') => HI2.out k m vv hy hvv W' h)
            have hksz := (HKM.out k m vv hy hvv).2
            have hrow : (mcells ms)[k]? = some m.cells.toList := by simp [mcells, hy]
            have hbr : Below w.heap.size w wr := HBW.out.trans (hb.mono HBW.out.size)
            have z0 : wr.cell? (ad.add (k * 7)) = some (.string m.key) := (hbr.cell (p := at2 ad (k * 7) 0) (by rw [at2_block]; exact hadl)).trans (hcell k 0 _ _ hrow rfl)
            have z1 : wr.cell? ⟨(ad.add (k * 7)).block, (ad.add (k * 7)).off + 1, none⟩ = some (.int .i64 m.v.kind) := (hbr.cell (p := at2 ad (k * 7) 1) (by rw [at2_block]; exact hadl)).trans (hcell k 1 _ _ hrow rfl)
            have z2 : wr.cell? ⟨(ad.add (k * 7)).block, (ad.add (k * 7)).off + 2, none⟩ = some (.bool m.v.yes) := (hbr.cell (p := at2 ad (k * 7) 2) (by rw [at2_block]; exact hadl)).trans (hcell k 2 _ _ hrow rfl)
            have z3 : wr.cell? ⟨(ad.add (k * 7)).block, (ad.add (k * 7)).off + 3, none⟩ = some (.int .i64 m.v.int) := (hbr.cell (p := at2 ad (k * 7) 3) (by rw [at2_block]; exact hadl)).trans (hcell k 3 _ _ hrow rfl)
            have z4 : wr.cell? ⟨(ad.add (k * 7)).block, (ad.add (k * 7)).off + 4, none⟩ = some (.string m.v.text) := (hbr.cell (p := at2 ad (k * 7) 4) (by rw [at2_block]; exact hadl)).trans (hcell k 4 _ _ hrow rfl)
            have z5 : wr.cell? ⟨(ad.add (k * 7)).block, (ad.add (k * 7)).off + 5, none⟩ = some (.slice m.v.list.a m.v.list.n m.v.list.c) := (hbr.cell (p := at2 ad (k * 7) 5) (by rw [at2_block]; exact hadl)).trans (hcell k 5 _ _ hrow rfl)
            have z6 : wr.cell? ⟨(ad.add (k * 7)).block, (ad.add (k * 7)).off + 6, none⟩ = some (.slice m.v.map.a m.v.map.n m.v.map.c) := (hbr.cell (p := at2 ad (k * 7) 6) (by rw [at2_block]; exact hadl)).trans (hcell k 6 _ _ hrow rfl)
            have HBR := Lib.hid hbr
            have HB2 := Lib.hid hb
            have hadr : ad.block < wr.heap.size := Nat.lt_of_lt_of_le hadl hbr.size
            subst hla
            clear hy hvv hrow hcell hb hbr
            go_wp2_with fail
            have hbA : Below wr.heap.size wr (wr.alloc (.cells #[.string m.key, .int .i64 m.v.kind, .bool m.v.yes, .int .i64 m.v.int, .string m.v.text, .slice m.v.list.a m.v.list.n m.v.list.c, .slice m.v.map.a m.v.map.n m.v.map.c] 172)) := (Below.refl _ _).alloc (Nat.le_refl _) _
            have hma : (wr.alloc (.cells #[.string m.key, .int .i64 m.v.kind, .bool m.v.yes, .int .i64 m.v.int, .string m.v.text, .slice m.v.list.a m.v.list.n m.v.list.c, .slice m.v.map.a m.v.map.n m.v.map.c] 172)).heap[wr.heap.size]? = some (.cells #[.string m.key, .int .i64 m.v.kind, .bool m.v.yes, .int .i64 m.v.int, .string m.v.text, .slice m.v.list.a m.v.list.n m.v.list.c, .slice m.v.map.a m.v.map.n m.v.map.c] 172 (0, 0)) := heap_new_at _ _ _ rfl
            have HBA := Lib.hid (HBR.out.trans (hbA.mono HBR.out.size))
            have HBW2 := Lib.hid (HB2.out.trans (hbA.mono HB2.out.size))
            generalize wr.alloc (.cells #[.string m.key, .int .i64 m.v.kind, .bool m.v.yes, .int .i64 m.v.int, .string m.v.text, .slice m.v.list.a m.v.list.n m.v.list.c, .slice m.v.map.a m.v.map.n m.v.map.c] 172) = wm at *
            have m0 : wm.cell? ⟨wr.heap.size, 0, none⟩ = some _ := cell_at (j := 0) hma rfl
            have m1 : wm.cell? ⟨wr.heap.size, 1, none⟩ = some _ := cell_at (j := 1) hma rfl
            have m2 : wm.cell? ⟨wr.heap.size, 2, none⟩ = some _ := cell_at (j := 2) hma rfl
            have m3 : wm.cell? ⟨wr.heap.size, 3, none⟩ = some _ := cell_at (j := 3) hma rfl
            have m4 : wm.cell? ⟨wr.heap.size, 4, none⟩ = some _ := cell_at (j := 4) hma rfl
            have m5 : wm.cell? ⟨wr.heap.size, 5, none⟩ = some _ := cell_at (j := 5) hma rfl
            have m6 : wm.cell? ⟨wr.heap.size, 6, none⟩ = some _ := cell_at (j := 6) hma rfl
            have HMA := Lib.hid hma
            clear hbA hma
            refine wt_start (S := fun W => W.cell? ⟨wr.heap.size, 0, none⟩ = some (.string m.key) ∧ W.cell? ⟨wr.heap.size, 1, none⟩ = some (.int .i64 m.v.kind) ∧ W.cell? ⟨wr.heap.size, 2, none⟩ = some (.bool m.v.yes) ∧ W.cell? ⟨wr.heap.size, 3, none⟩ = some (.int .i64 m.v.int) ∧ W.cell? ⟨wr.heap.size, 4, none⟩ = some (.string m.v.text) ∧ W.cell? ⟨wr.heap.size, 5, none⟩ = some (.slice m.v.list.a m.v.list.n m.v.list.c) ∧ W.cell? ⟨wr.heap.size, 6, none⟩ = some (.slice m.v.map.a m.v.map.n m.v.map.c)) 10 (by kernel_rfl) ⟨by kernel_rfl, by kernel_rfl, by kernel_rfl, by decide⟩ ?_
            intro HTK
            refine wt_take (i := 0) (v := ?_) HTK.out rfl (by decide) (by kernel_rfl) (by kernel_rfl) (fun _ _ _ h => h) (by exact ⟨m0, m1, m2, m3, m4, m5, m6⟩) (Or.inl ⟨by rfl, ?_⟩) ?_
            rotate_left
            · intro W hSw
              obtain ⟨q0, q1, q2, q3, q4, q5, q6⟩ := hSw
              go_simp
              try (with_reducible rfl)
            try simp only [List.getElem_toArray, List.getElem_cons_zero, List.getElem_cons_succ, Act.put, List.setIfInBounds_toArray, List.set_cons_zero, List.set_cons_succ]
            refine wt_take (i := 1) (v := ?_) HTK.out rfl (by decide) (by kernel_rfl) (by kernel_rfl) (fun _ _ _ h => h) (by exact ⟨m0, m1, m2, m3, m4, m5, m6⟩) (Or.inl ⟨by rfl, ?_⟩) ?_
            rotate_left
            · intro W hSw
              obtain ⟨q0, q1, q2, q3, q4, q5, q6⟩ := hSw
              go_simp
              try (with_reducible rfl)
            try simp only [List.getElem_toArray, List.getElem_cons_zero, List.getElem_cons_succ, Act.put, List.setIfInBounds_toArray, List.set_cons_zero, List.set_cons_succ]
            refine wt_take (i := 2) (v := ?_) HTK.out rfl (by decide) (by kernel_rfl) (by kernel_rfl) (fun _ _ _ h => h) (by exact ⟨m0, m1, m2, m3, m4, m5, m6⟩) (Or.inl ⟨by rfl, ?_⟩) ?_
            rotate_left
            · intro W hSw
              obtain ⟨q0, q1, q2, q3, q4, q5, q6⟩ := hSw
              go_simp
              try (with_reducible rfl)
            try simp only [List.getElem_toArray, List.getElem_cons_zero, List.getElem_cons_succ, Act.put, List.setIfInBounds_toArray, List.set_cons_zero, List.set_cons_succ]
            refine wt_take (i := 4) (v := ?_) HTK.out rfl (by decide) (by kernel_rfl) (by kernel_rfl) (fun _ _ _ h => h) (by exact ⟨m0, m1, m2, m3, m4, m5, m6⟩) (Or.inl ⟨by rfl, ?_⟩) ?_
            rotate_left
            · intro W hSw
              obtain ⟨q0, q1, q2, q3, q4, q5, q6⟩ := hSw
              go_simp
              try (with_reducible rfl)
            try simp only [List.getElem_toArray, List.getElem_cons_zero, List.getElem_cons_succ, Act.put, List.setIfInBounds_toArray, List.set_cons_zero, List.set_cons_succ]
            refine wt_take (i := 5) (v := ?_) HTK.out rfl (by decide) (by kernel_rfl) (by kernel_rfl) (fun _ _ _ h => h) (by exact ⟨m0, m1, m2, m3, m4, m5, m6⟩) (Or.inl ⟨by rfl, ?_⟩) ?_
            rotate_left
            · intro W hSw
              obtain ⟨q0, q1, q2, q3, q4, q5, q6⟩ := hSw
              go_simp
              try (with_reducible rfl)
            try simp only [List.getElem_toArray, List.getElem_cons_zero, List.getElem_cons_succ, Act.put, List.setIfInBounds_toArray, List.set_cons_zero, List.set_cons_succ]
            refine wt_take (i := 6) (v := ?_) HTK.out rfl (by decide) (by kernel_rfl) (by kernel_rfl) (fun _ _ _ h => h) (by exact ⟨m0, m1, m2, m3, m4, m5, m6⟩) (Or.inl ⟨by rfl, ?_⟩) ?_
            rotate_left
            · intro W hSw
              obtain ⟨q0, q1, q2, q3, q4, q5, q6⟩ := hSw
              go_simp
              try (with_reducible rfl)
            try simp only [List.getElem_toArray, List.getElem_cons_zero, List.getElem_cons_succ, Act.put, List.setIfInBounds_toArray, List.set_cons_zero, List.set_cons_succ]
            refine wt_take (i := 7) (v := ?_) HTK.out rfl (by decide) (by kernel_rfl) (by kernel_rfl) (fun _ _ _ h => h) (by exact ⟨m0, m1, m2, m3, m4, m5, m6⟩) (Or.inl ⟨by rfl, ?_⟩) ?_
            rotate_left
            · intro W hSw
              obtain ⟨q0, q1, q2, q3, q4, q5, q6⟩ := hSw
              go_simp
              try (with_reducible rfl)
            try simp only [List.getElem_toArray, List.getElem_cons_zero, List.getElem_cons_succ, Act.put, List.setIfInBounds_toArray, List.set_cons_zero, List.set_cons_succ]
            refine wt_ready (rs := [3]) (by kernel_rfl) (by simp) ?_
            refine AllT.cons rfl (by decide) (fun K hK => ?_) ?_
            · go_simp
              go_at_call 74
              refine (HC.out _ HBA.out.drew).mono ?_
              rintro e wz ⟨⟨nz, rfl⟩, hbz⟩
              have hmz := (hbz.block _ (by exact blk_lt HMA.out)).trans HMA.out
              have m0 : wz.cell? ⟨wr.heap.size, 0, none⟩ = some _ := cell_at (j := 0) hmz rfl
              have m1 : wz.cell? ⟨wr.heap.size, 1, none⟩ = some _ := cell_at (j := 1) hmz rfl
              have m2 : wz.cell? ⟨wr.heap.size, 2, none⟩ = some _ := cell_at (j := 2) hmz rfl
              have m3 : wz.cell? ⟨wr.heap.size, 3, none⟩ = some _ := cell_at (j := 3) hmz rfl
              have m4 : wz.cell? ⟨wr.heap.size, 4, none⟩ = some _ := cell_at (j := 4) hmz rfl
              have m5 : wz.cell? ⟨wr.heap.size, 5, none⟩ = some _ := cell_at (j := 5) hmz rfl
              have m6 : wz.cell? ⟨wr.heap.size, 6, none⟩ = some _ := cell_at (j := 6) hmz rfl
              have HBZ2 := Lib.hid (HBW2.out.drew.trans (hbz.mono HBW2.out.size))
              clear hbz hmz
              refine hK.out _ _ (by exact ⟨m0, m1, m2, m3, m4, m5, m6⟩) ?_
              clear hK K
              try simp only [List.getElem_toArray, List.getElem_cons_zero, List.getElem_cons_succ, Act.put, List.setIfInBounds_toArray, List.set_cons_zero, List.set_cons_succ]
              refine wt_take (i := 8) (v := ?_) HTK.out rfl (by decide) (by kernel_rfl) (by kernel_rfl) (fun _ _ _ h => h) (by exact ⟨m0, m1, m2, m3, m4, m5, m6⟩) (Or.inl ⟨by rfl, ?_⟩) ?_
              rotate_left
              · intro W hSw
                obtain ⟨q0, q1, q2, q3, q4, q5, q6⟩ := hSw
                go_simp
                try (with_reducible rfl)
              try simp only [List.getElem_toArray, List.getElem_cons_zero, List.getElem_cons_succ, Act.put, List.setIfInBounds_toArray, List.set_cons_zero, List.set_cons_succ]
              refine wt_take (i := 9) (v := ?_) HTK.out rfl (by decide) (by kernel_rfl) (by kernel_rfl) (fun _ _ _ h => h) (by exact ⟨m0, m1, m2, m3, m4, m5, m6⟩) (Or.inl ⟨by rfl, ?_⟩) ?_
              rotate_left
              · intro W hSw
                obtain ⟨q0, q1, q2, q3, q4, q5, q6⟩ := hSw
                go_simp
                try (with_reducible rfl)
              try simp only [List.getElem_toArray, List.getElem_cons_zero, List.getElem_cons_succ, Act.put, List.setIfInBounds_toArray, List.set_cons_zero, List.set_cons_succ]
              refine wt_last (k := 10) (by kernel_rfl) (by kernel_rfl) (by decide) rfl (fun K hK => ?_)
              go_simp
              refine hK.out _ _ ?_
              clear hK K
              try simp only [List.getElem_toArray, List.getElem_cons_zero, List.getElem_cons_succ, Act.put, List.setIfInBounds_toArray, List.set_cons_zero, List.set_cons_succ]
              go_wp2_with fail
              exact ⟨⟨k + 1, _, by omega, by go_num, rfl, HBZ2.out⟩, by simp [intOf]; omega⟩
            exact AllT.nil
          · obtain rfl : k = ms.length := by omega
            have HB3 := Lib.hid hb
            clear hb
            go_wp2_with fail
            go_ret
            exact ⟨⟨_, rfl⟩, HB3.out⟩
set_option maxRecDepth 100000 in
set_option maxHeartbeats 4000000 in
theorem fewV_ok {w : World} {x : V6} {v : V} (h : RepI w x v) (most : Int) : ∀ W, Below w.heap.size w W → Calls Tryz.prog 51 #[.agg x.cells, .int .i64 most] W fun e w' => (∃ b : Bool, e = .returned (.bool b)) ∧ Below W.heap.size W w' := by
  cases h with
  | mk _ L M xs ms ht hL hM lenL lenM elL keyM elM =>
    intro W hbW
    have hnl : x.list.n = xs.length := by have := hL.1; simpa using this
    have hnm : x.map.n = ms.length := by have := hM.1; simpa using this
    have hkl : xs.length ≤ 1599289640401 := by have := hL.2.1; simpa using this
    have hkm : ms.length ≤ 1353245080339 := by have := hM.2.1; simpa using this
    have HL := Lib.hid hL.2.2.2
    have HM := Lib.hid hM.2.2.2
    have HI1 := Lib.hid (fun i y v hy hv => size_ok (elL i y v hy hv))
    have HI2 := Lib.hid (fun i m kv hy hv => size_ok (elM i m kv hy hv))
    have HLL := Lib.hid lenL
    have HLM := Lib.hid lenM
    have HKM := Lib.hid keyM
    have HBW := Lib.hid hbW
    obtain ⟨xk, xy, xi, xt, ⟨la, ln, lc⟩, ⟨ma, mn, mc⟩⟩ := x
    dsimp only at hnl hnm
    subst hnl hnm
    clear hL hM lenL lenM elL keyM elM hbW
    go_enter Tryz.func51, Tryz.ntmps51
    go_wp2_with fail
    have hx0 : (W.alloc (.cells #[.int .i64 xk, .bool xy, .int .i64 xi, .string xt, .slice la xs.length lc, .slice ma ms.length mc] 71)).heap[W.heap.size]? = some (.cells #[.int .i64 xk, .bool xy, .int .i64 xi, .string xt, .slice la xs.length lc, .slice ma ms.length mc] 71 (0, 0)) := heap_new_at _ _ _ rfl
    have hb0 : Below W.heap.size W (W.alloc (.cells #[.int .i64 xk, .bool xy, .int .i64 xi, .string xt, .slice la xs.length lc, .slice ma ms.length mc] 71)) := (Below.refl _ _).alloc (Nat.le_refl _) _
    have HX0 := Lib.hid hx0
    have HB0 := Lib.hid hb0
    clear hx0 hb0
    go_loopw [5, 18] (fun c3 c16 wr => ∃ (k : Nat) (n : Int), k ≤ xs.length ∧ c16 = .int .i64 k ∧ c3 = .int .i64 n ∧ Below W.heap.size W wr ∧ wr.heap[W.heap.size]? = some (.cells #[.int .i64 xk, .bool xy, .int .i64 xi, .string xt, .slice la xs.length lc, .slice ma ms.length mc] 71 (0, 0))) (fun _ c16 _ => xs.length - (intOf c16).toNat)
    case atStart => exact ⟨0, _, by omega, rfl, rfl, HB0.out, HX0.out⟩
    case round =>
      obtain ⟨k, n, hk, rfl, rfl, hb, hx⟩ := hrel
      by_cases hlt : k < xs.length
      · obtain ⟨ad, hla, hadl, hcell⟩ := HL.out (by simpa using (by omega : 0 < xs.length))
        have hy : xs[k]? = some xs[k] := List.getElem?_eq_getElem hlt
        obtain ⟨vv, hvv⟩ : ∃ vv, L[k]? = some vv := ⟨_, List.getElem?_eq_getElem (by rw [← HLL.out]; exact hlt)⟩
        generalize xs[k] = y at hy
        have HC := Lib.hid (fun (W' : World) (h : Below w.heap.size w W') => HI1.out k y vv hy hvv W' h)
        have hrow : (vcells xs)[k]? = some y.cells.toList := by simp [vcells, hy]
        have hbr : Below w.heap.size w wr := HBW.out.trans (hb.mono HBW.out.size)
        have y0 : wr.cell? (ad.add (k * 6)) = some (.int .i64 y.kind) := (hbr.cell (p := at2 ad (k * 6) 0) (by rw [at2_block]; exact hadl)).trans (hcell k 0 _ _ hrow rfl)
        have y1 : wr.cell? ⟨(ad.add (k * 6)).block, (ad.add (k * 6)).off + 1, none⟩ = some (.bool y.yes) := (hbr.cell (p := at2 ad (k * 6) 1) (by rw [at2_block]; exact hadl)).trans (hcell k 1 _ _ hrow rfl)
        have y2 : wr.cell? ⟨(ad.add (k * 6)).block, (ad.add (k * 6)).off + 2, none⟩ = some (.int .i64 y.int) := (hbr.cell (p := at2 ad (k * 6) 2) (by rw [at2_block]; exact hadl)).trans (hcell k 2 _ _ hrow rfl)
        have y3 : wr.cell? ⟨(ad.add (k * 6)).block, (ad.add (k * 6)).off + 3, none⟩ = some (.string y.text) := (hbr.cell (p := at2 ad (k * 6) 3) (by rw [at2_block]; exact hadl)).trans (hcell k 3 _ _ hrow rfl)
        have y4 : wr.cell? ⟨(ad.add (k * 6)).block, (ad.add (k * 6)).off + 4, none⟩ = some (.slice y.list.a y.list.n y.list.c) := (hbr.cell (p := at2 ad (k * 6) 4) (by rw [at2_block]; exact hadl)).trans (hcell k 4 _ _ hrow rfl)
        have y5 : wr.cell? ⟨(ad.add (k * 6)).block, (ad.add (k * 6)).off + 5, none⟩ = some (.slice y.map.a y.map.n y.map.c) := (hbr.cell (p := at2 ad (k * 6) 5) (by rw [at2_block]; exact hadl)).trans (hcell k 5 _ _ hrow rfl)
        have HB := Lib.hid hb
        have HX := Lib.hid hx
        have HBR := Lib.hid hbr
        have hadr : ad.block < wr.heap.size := Nat.lt_of_lt_of_le hadl hbr.size
        subst hla
        clear hy hvv hrow hcell hb hx hbr
        go_wp2_with fail
        have hbA : Below wr.heap.size wr (wr.alloc (.cells #[.int .i64 y.kind, .bool y.yes, .int .i64 y.int, .string y.text, .slice y.list.a y.list.n y.list.c, .slice y.map.a y.map.n y.map.c] 71)) := (Below.refl _ _).alloc (Nat.le_refl _) _
        refine (HC.out _ (HBR.out.trans (hbA.mono HBR.out.size))).mono ?_
        rintro e wz ⟨⟨nz, rfl⟩, hbz⟩
        have hbz' := hbA.trans (hbz.mono (by simp))
        have HBZ := Lib.hid (HB.out.trans (hbz'.mono HB.out.size))
        have HXZ := Lib.hid ((hbz'.block _ (blk_lt HX.out)).trans HX.out)
        clear hbA hbz hbz'
        go_wp2_with fail
        exact ⟨⟨k + 1, _, by omega, by go_num, rfl, HBZ.out, HXZ.out⟩, by simp [intOf]; omega⟩
      · obtain rfl : k = xs.length := by omega
        have x5 := cell_at (j := 5) hx rfl
        have HB := Lib.hid hb
        obtain ⟨w1, hw1⟩ : ∃ wn : World, wn = wr := ⟨_, rfl⟩
        subst hw1
        clear hb hx
        go_wp2_with fail
        go_loopw [5, 30] (fun c3 c28 wr => ∃ (k : Nat) (n : Int), k ≤ ms.length ∧ c28 = .int .i64 k ∧ c3 = .int .i64 n ∧ Below W.heap.size W wr) (fun _ c28 _ => ms.length - (intOf c28).toNat)
        case atStart => exact ⟨0, _, by omega, rfl, rfl, HB.out⟩
        case round =>
          obtain ⟨k, n, hk, rfl, rfl, hb⟩ := hrel
          by_cases hlt : k < ms.length
          · obtain ⟨ad, hla, hadl, hcell⟩ := HM.out (by simpa using (by omega : 0 < ms.length))
            have hy : ms[k]? = some ms[k] := List.getElem?_eq_getElem hlt
            obtain ⟨vv, hvv⟩ : ∃ vv, M[k]? = some vv := ⟨_, List.getElem?_eq_getElem (by rw [← HLM.out]; exact hlt)⟩
            generalize ms[k] = m at hy
            have HC := Lib.hid (fun (W' : World) (h : Below w.heap.size w W') => HI2.out k m vv hy hvv W' h)
            have hksz := (HKM.out k m vv hy hvv).2
            have hrow : (mcells ms)[k]? = some m.cells.toList := by simp [mcells, hy]
            have hbr : Below w.heap.size w wr := HBW.out.trans (hb.mono HBW.out.size)
            have z0 : wr.cell? (ad.add (k * 7)) = some (.string m.key) := (hbr.cell (p := at2 ad (k * 7) 0) (by rw [at2_block]; exact hadl)).trans (hcell k 0 _ _ hrow rfl)
            have z1 : wr.cell? ⟨(ad.add (k * 7)).block, (ad.add (k * 7)).off + 1, none⟩ = some (.int .i64 m.v.kind) := (hbr.cell (p := at2 ad (k * 7) 1) (by rw [at2_block]; exact hadl)).trans (hcell k 1 _ _ hrow rfl)
            have z2 : wr.cell? ⟨(ad.add (k * 7)).block, (ad.add (k * 7)).off + 2, none⟩ = some (.bool m.v.yes) := (hbr.cell (p := at2 ad (k * 7) 2) (by rw [at2_block]; exact hadl)).trans (hcell k 2 _ _ hrow rfl)
            have z3 : wr.cell? ⟨(ad.add (k * 7)).block, (ad.add (k * 7)).off + 3, none⟩ = some (.int .i64 m.v.int) := (hbr.cell (p := at2 ad (k * 7) 3) (by rw [at2_block]; exact hadl)).trans (hcell k 3 _ _ hrow rfl)
            have z4 : wr.cell? ⟨(ad.add (k * 7)).block, (ad.add (k * 7)).off + 4, none⟩ = some (.string m.v.text) := (hbr.cell (p := at2 ad (k * 7) 4) (by rw [at2_block]; exact hadl)).trans (hcell k 4 _ _ hrow rfl)
            have z5 : wr.cell? ⟨(ad.add (k * 7)).block, (ad.add (k * 7)).off + 5, none⟩ = some (.slice m.v.list.a m.v.list.n m.v.list.c) := (hbr.cell (p := at2 ad (k * 7) 5) (by rw [at2_block]; exact hadl)).trans (hcell k 5 _ _ hrow rfl)
            have z6 : wr.cell? ⟨(ad.add (k * 7)).block, (ad.add (k * 7)).off + 6, none⟩ = some (.slice m.v.map.a m.v.map.n m.v.map.c) := (hbr.cell (p := at2 ad (k * 7) 6) (by rw [at2_block]; exact hadl)).trans (hcell k 6 _ _ hrow rfl)
            have HBR := Lib.hid hbr
            have HB2 := Lib.hid hb
            have hadr : ad.block < wr.heap.size := Nat.lt_of_lt_of_le hadl hbr.size
            subst hla
            clear hy hvv hrow hcell hb hbr
            go_wp2_with fail
            have hbA : Below wr.heap.size wr (wr.alloc (.cells #[.string m.key, .int .i64 m.v.kind, .bool m.v.yes, .int .i64 m.v.int, .string m.v.text, .slice m.v.list.a m.v.list.n m.v.list.c, .slice m.v.map.a m.v.map.n m.v.map.c] 172)) := (Below.refl _ _).alloc (Nat.le_refl _) _
            have hma : (wr.alloc (.cells #[.string m.key, .int .i64 m.v.kind, .bool m.v.yes, .int .i64 m.v.int, .string m.v.text, .slice m.v.list.a m.v.list.n m.v.list.c, .slice m.v.map.a m.v.map.n m.v.map.c] 172)).heap[wr.heap.size]? = some (.cells #[.string m.key, .int .i64 m.v.kind, .bool m.v.yes, .int .i64 m.v.int, .string m.v.text, .slice m.v.list.a m.v.list.n m.v.list.c, .slice m.v.map.a m.v.map.n m.v.map.c] 172 (0, 0)) := heap_new_at _ _ _ rfl
            have HBA := Lib.hid (HBR.out.trans (hbA.mono HBR.out.size))
            have HBW2 := Lib.hid (HB2.out.trans (hbA.mono HB2.out.size))
            generalize wr.alloc (.cells #[.string m.key, .int .i64 m.v.kind, .bool m.v.yes, .int .i64 m.v.int, .string m.v.text, .slice m.v.list.a m.v.list.n m.v.list.c, .slice m.v.map.a m.v.map.n m.v.map.c] 172) = wm at *
            have m0 : wm.cell? ⟨wr.heap.size, 0, none⟩ = some _ := cell_at (j := 0) hma rfl
            have m1 : wm.cell? ⟨wr.heap.size, 1, none⟩ = some _ := cell_at (j := 1) hma rfl
            have m2 : wm.cell? ⟨wr.heap.size, 2, none⟩ = some _ := cell_at (j := 2) hma rfl
            have m3 : wm.cell? ⟨wr.heap.size, 3, none⟩ = some _ := cell_at (j := 3) hma rfl
            have m4 : wm.cell? ⟨wr.heap.size, 4, none⟩ = some _ := cell_at (j := 4) hma rfl
            have m5 : wm.cell? ⟨wr.heap.size, 5, none⟩ = some _ := cell_at (j := 5) hma rfl
            have m6 : wm.cell? ⟨wr.heap.size, 6, none⟩ = some _ := cell_at (j := 6) hma rfl
            have HMA := Lib.hid hma
            clear hbA hma
            refine wt_start (S := fun W => W.cell? ⟨wr.heap.size, 0, none⟩ = some (.string m.key) ∧ W.cell? ⟨wr.heap.size, 1, none⟩ = some (.int .i64 m.v.kind) ∧ W.cell? ⟨wr.heap.size, 2, none⟩ = some (.bool m.v.yes) ∧ W.cell? ⟨wr.heap.size, 3, none⟩ = some (.int .i64 m.v.int) ∧ W.cell? ⟨wr.heap.size, 4, none⟩ = some (.string m.v.text) ∧ W.cell? ⟨wr.heap.size, 5, none⟩ = some (.slice m.v.list.a m.v.list.n m.v.list.c) ∧ W.cell? ⟨wr.heap.size, 6, none⟩ = some (.slice m.v.map.a m.v.map.n m.v.map.c)) 10 (by kernel_rfl) ⟨by kernel_rfl, by kernel_rfl, by kernel_rfl, by decide⟩ ?_
            intro HTK
            refine wt_take (i := 0) (v := ?_) HTK.out rfl (by decide) (by kernel_rfl) (by kernel_rfl) (fun _ _ _ h => h) (by exact ⟨m0, m1, m2, m3, m4, m5, m6⟩) (Or.inl ⟨by rfl, ?_⟩) ?_
            rotate_left
            · intro W hSw
              obtain ⟨q0, q1, q2, q3, q4, q5, q6⟩ := hSw
              go_simp
              try (with_reducible rfl)
            try simp only [List.getElem_toArray, List.getElem_cons_zero, List.getElem_cons_succ, Act.put, List.setIfInBounds_toArray, List.set_cons_zero, List.set_cons_succ]
            refine wt_take (i := 1) (v := ?_) HTK.out rfl (by decide) (by kernel_rfl) (by kernel_rfl) (fun _ _ _ h => h) (by exact ⟨m0, m1, m2, m3, m4, m5, m6⟩) (Or.inl ⟨by rfl, ?_⟩) ?_
            rotate_left
            · intro W hSw
              obtain ⟨q0, q1, q2, q3, q4, q5, q6⟩ := hSw
              go_simp
              try (with_reducible rfl)
            try simp only [List.getElem_toArray, List.getElem_cons_zero, List.getElem_cons_succ, Act.put, List.setIfInBounds_toArray, List.set_cons_zero, List.set_cons_succ]
            refine wt_take (i := 2) (v := ?_) HTK.out rfl (by decide) (by kernel_rfl) (by kernel_rfl) (fun _ _ _ h => h) (by exact ⟨m0, m1, m2, m3, m4, m5, m6⟩) (Or.inl ⟨by rfl, ?_⟩) ?_
            rotate_left
            · intro W hSw
              obtain ⟨q0, q1, q2, q3, q4, q5, q6⟩ := hSw
              go_simp
              try (with_reducible rfl)
            try simp only [List.getElem_toArray, List.getElem_cons_zero, List.getElem_cons_succ, Act.put, List.setIfInBounds_toArray, List.set_cons_zero, List.set_cons_succ]
            refine wt_take (i := 4) (v := ?_) HTK.out rfl (by decide) (by kernel_rfl) (by kernel_rfl) (fun _ _ _ h => h) (by exact ⟨m0, m1, m2, m3, m4, m5, m6⟩) (Or.inl ⟨by rfl, ?_⟩) ?_
            rotate_left
            · intro W hSw
              obtain ⟨q0, q1, q2, q3, q4, q5, q6⟩ := hSw
              go_simp
              try (with_reducible rfl)
            try simp only [List.getElem_toArray, List.getElem_cons_zero, List.getElem_cons_succ, Act.put, List.setIfInBounds_toArray, List.set_cons_zero, List.set_cons_succ]
            refine wt_take (i := 5) (v := ?_) HTK.out rfl (by decide) (by kernel_rfl) (by kernel_rfl) (fun _ _ _ h => h) (by exact ⟨m0, m1, m2, m3, m4, m5, m6⟩) (Or.inl ⟨by rfl, ?_⟩) ?_
            rotate_left
            · intro W hSw
              obtain ⟨q0, q1, q2, q3, q4, q5, q6⟩ := hSw
              go_simp
              try (with_reducible rfl)
            try simp only [List.getElem_toArray, List.getElem_cons_zero, List.getElem_cons_succ, Act.put, List.setIfInBounds_toArray, List.set_cons_zero, List.set_cons_succ]
            refine wt_take (i := 6) (v := ?_) HTK.out rfl (by decide) (by kernel_rfl) (by kernel_rfl) (fun _ _ _ h => h) (by exact ⟨m0, m1, m2, m3, m4, m5, m6⟩) (Or.inl ⟨by rfl, ?_⟩) ?_
            rotate_left
            · intro W hSw
              obtain ⟨q0, q1, q2, q3, q4, q5, q6⟩ := hSw
              go_simp
              try (with_reducible rfl)
            try simp only [List.getElem_toArray, List.getElem_cons_zero, List.getElem_cons_succ, Act.put, List.setIfInBounds_toArray, List.set_cons_zero, List.set_cons_succ]
            refine wt_take (i := 7) (v := ?_) HTK.out rfl (by decide) (by kernel_rfl) (by kernel_rfl) (fun _ _ _ h => h) (by exact ⟨m0, m1, m2, m3, m4, m5, m6⟩) (Or.inl ⟨by rfl, ?_⟩) ?_
            rotate_left
            · intro W hSw
              obtain ⟨q0, q1, q2, q3, q4, q5, q6⟩ := hSw
              go_simp
              try (with_reducible rfl)
            try simp only [List.getElem_toArray, List.getElem_cons_zero, List.getElem_cons_succ, Act.put, List.setIfInBounds_toArray, List.set_cons_zero, List.set_cons_succ]
            refine wt_ready (rs := [3]) (by kernel_rfl) (by simp) ?_
            refine AllT.cons rfl (by decide) (fun K hK => ?_) ?_
            · go_simp
              go_at_call 74
              refine (HC.out _ HBA.out.drew).mono ?_
              rintro e wz ⟨⟨nz, rfl⟩, hbz⟩
              have hmz := (hbz.block _ (by exact blk_lt HMA.out)).trans HMA.out
              have m0 : wz.cell? ⟨wr.heap.size, 0, none⟩ = some _ := cell_at (j := 0) hmz rfl
              have m1 : wz.cell? ⟨wr.heap.size, 1, none⟩ = some _ := cell_at (j := 1) hmz rfl
              have m2 : wz.cell? ⟨wr.heap.size, 2, none⟩ = some _ := cell_at (j := 2) hmz rfl
              have m3 : wz.cell? ⟨wr.heap.size, 3, none⟩ = some _ := cell_at (j := 3) hmz rfl
              have m4 : wz.cell? ⟨wr.heap.size, 4, none⟩ = some _ := cell_at (j := 4) hmz rfl
              have m5 : wz.cell? ⟨wr.heap.size, 5, none⟩ = some _ := cell_at (j := 5) hmz rfl
              have m6 : wz.cell? ⟨wr.heap.size, 6, none⟩ = some _ := cell_at (j := 6) hmz rfl
              have HBZ2 := Lib.hid (HBW2.out.drew.trans (hbz.mono HBW2.out.size))
              clear hbz hmz
              refine hK.out _ _ (by exact ⟨m0, m1, m2, m3, m4, m5, m6⟩) ?_
              clear hK K
              try simp only [List.getElem_toArray, List.getElem_cons_zero, List.getElem_cons_succ, Act.put, List.setIfInBounds_toArray, List.set_cons_zero, List.set_cons_succ]
              refine wt_take (i := 8) (v := ?_) HTK.out rfl (by decide) (by kernel_rfl) (by kernel_rfl) (fun _ _ _ h => h) (by exact ⟨m0, m1, m2, m3, m4, m5, m6⟩) (Or.inl ⟨by rfl, ?_⟩) ?_
              rotate_left
              · intro W hSw
                obtain ⟨q0, q1, q2, q3, q4, q5, q6⟩ := hSw
                go_simp
                try (with_reducible rfl)
              try simp only [List.getElem_toArray, List.getElem_cons_zero, List.getElem_cons_succ, Act.put, List.setIfInBounds_toArray, List.set_cons_zero, List.set_cons_succ]
              refine wt_take (i := 9) (v := ?_) HTK.out rfl (by decide) (by kernel_rfl) (by kernel_rfl) (fun _ _ _ h => h) (by exact ⟨m0, m1, m2, m3, m4, m5, m6⟩) (Or.inl ⟨by rfl, ?_⟩) ?_
              rotate_left
              · intro W hSw
                obtain ⟨q0, q1, q2, q3, q4, q5, q6⟩ := hSw
                go_simp
                try (with_reducible rfl)
              try simp only [List.getElem_toArray, List.getElem_cons_zero, List.getElem_cons_succ, Act.put, List.setIfInBounds_toArray, List.set_cons_zero, List.set_cons_succ]
              refine wt_last (k := 10) (by kernel_rfl) (by kernel_rfl) (by decide) rfl (fun K hK => ?_)
              go_simp
              refine hK.out _ _ ?_
              clear hK K
              try simp only [List.getElem_toArray, List.getElem_cons_zero, List.getElem_cons_succ, Act.put, List.setIfInBounds_toArray, List.set_cons_zero, List.set_cons_succ]
              go_wp2_with fail
              exact ⟨⟨k + 1, _, by omega, by go_num, rfl, HBZ2.out⟩, by simp [intOf]; omega⟩
            exact AllT.nil
          · obtain rfl : k = ms.length := by omega
            have HB3 := Lib.hid hb
            clear hb
            go_wp2_with fail
            go_ret
            exact ⟨⟨_, rfl⟩, HB3.out⟩
end Go.Proofs.YtgnoaeldmpbjmaaGreatDoor
/- slices.Clone, of the rows of values and of members. -/
namespace Go.Proofs.YtgnoaeldmpbjmaaGreatDoor
open Go.RowKit

theorem infoV : (Tryz.prog.info? 92).map (fun i => (i.zero, i.size, i.bytes)) = some (some (.agg #[.int .i64 0, .bool false, .int .i64 0, .string ⟨#[]⟩, .slice none 0 0, .slice none 0 0]), 6, 88) := by kernel_rfl
theorem infoM : (Tryz.prog.info? 141).map (fun i => (i.zero, i.size, i.bytes)) = some (some (.agg #[.string ⟨#[]⟩, .int .i64 0, .bool false, .int .i64 0, .string ⟨#[]⟩, .slice none 0 0, .slice none 0 0]), 7, 104) := by kernel_rfl

set_option maxRecDepth 100000 in
theorem cloneV_calls (w : World) (P : Nat → Prop) (s : Sl) (l : List V6) (h : RowB 1599289640401 w P 92 6 s (vcells l)) :
    Calls Tryz.prog 85 #[.slice s.a s.n s.c] w fun e w' => ∃ s' : Sl, e = .returned (.slice s'.a s'.n s'.c) ∧ RowB 1599289640401 w' (fun g => w.heap.size ≤ g) 92 6 s' (vcells l) ∧ Below w.heap.size w w' := by
  obtain ⟨hn, hm, h⟩ := h
  have heq := fun (W : World) (a : Option Addr) (n c : Nat) => run_eql_slice_nil (P := Tryz.prog) W 89 92 a n c Tryz.underlying89
  have HL := Lib.hid (vcells_len l)
  have H1 := Lib.hid (vcells_one l)
  rcases h with ⟨rfl, hl⟩ | ⟨r, ha, hc, _, hr, hrw⟩
  · have HE := Lib.hid hl
    clear hn hm hl HL H1
    go_enter Tryz.func85, Tryz.ntmps85
    go_wp2_with fail
    go_ret
    exact ⟨⟨none, 0, 0⟩, rfl, ⟨by rw [HE.out]; rfl, by rw [HE.out]; simp, .inl ⟨rfl, HE.out⟩⟩, Below.refl _ _⟩
  · obtain ⟨A, n, c⟩ := s
    dsimp only at ha hn hc ⊢
    subst ha
    have HF := Lib.hid (hrw.flat (by decide))
    have HN := Lib.hid hn
    have HM := Lib.hid hm
    have hlen := flatten_length (vcells l) HL.out
    have HLEN := Lib.hid hlen
    obtain ⟨i0, hi, hz0, hz1, hz2⟩ := info_parts infoV
    have HI := Lib.hid hi
    have HZ0 := Lib.hid hz0
    have HZ1 := Lib.hid hz1
    have HZ2 := Lib.hid hz2
    clear hn hm hrw hi hz0 hz1 hz2 hlen hc
    go_enter Tryz.func85, Tryz.ntmps85
    go_wp2_with (at_builtin; refine wpList_append_own _ rfl _ _ 89 rfl w.heap.size 92 i0 _ 6 88 Tryz.underlying89 HI.out HZ0.out HZ1.out HZ2.out rfl (by decide) _ 0 [] rfl ⟨rfl, .inr ⟨w.heap.size, 0, #[], rfl, Nat.le_refl _, by exact heap_new _ _, by omega, by decide, rfl, rfl⟩⟩ ⟨r, 0, none⟩ n _ (vcells l).flatten rfl (by rw [HLEN.out, HN.out]) ?c1 H1.out ?c3 ?c4 ?c5 ?_)
    case c1 =>
      intro j u hj
      have := HF.out j u hj
      rw [show (Addr.add ⟨r, 0, none⟩ j) = ⟨r, j, none⟩ by unfold Addr.add; split <;> simp_all]
      exact (cell_old _ _ _ (by show r < _; exact hr)).trans this
    case c3 => have := HM.out; have := HN.out; unfold maxLen; omega
    case c4 => have := HM.out; have := HN.out; omega
    case c5 => simp
    intro v' w' hown hg _
    obtain ⟨s', rfl, hrow⟩ := RowB.of_own (l := vcells l) (by simpa using hown) HL.out (by decide) HM.out
    have HROW := Lib.hid hrow
    have HG := Lib.hid hg
    clear hown hrow hg
    go_wp2_with fail
    go_ret
    refine ⟨s', rfl, HROW.out, ?_⟩
    exact ((Below.refl w.heap.size w).alloc (Nat.le_refl _) _).grown HG.out (by simp) (fun j hj => by simp [Value.ownBlock] at hj; omega)
set_option maxRecDepth 100000 in
theorem cloneM_calls (w : World) (P : Nat → Prop) (s : Sl) (l : List Mb) (h : RowB 1353245080339 w P 141 7 s (mcells l)) :
    Calls Tryz.prog 86 #[.slice s.a s.n s.c] w fun e w' => ∃ s' : Sl, e = .returned (.slice s'.a s'.n s'.c) ∧ RowB 1353245080339 w' (fun g => w.heap.size ≤ g) 141 7 s' (mcells l) ∧ Below w.heap.size w w' := by
  obtain ⟨hn, hm, h⟩ := h
  have heq := fun (W : World) (a : Option Addr) (n c : Nat) => run_eql_slice_nil (P := Tryz.prog) W 90 141 a n c Tryz.underlying90
  have HL := Lib.hid (mcells_len l)
  have H1 := Lib.hid (mcells_one l)
  rcases h with ⟨rfl, hl⟩ | ⟨r, ha, hc, _, hr, hrw⟩
  · have HE := Lib.hid hl
    clear hn hm hl HL H1
    go_enter Tryz.func86, Tryz.ntmps86
    go_wp2_with fail
    go_ret
    exact ⟨⟨none, 0, 0⟩, rfl, ⟨by rw [HE.out]; rfl, by rw [HE.out]; simp, .inl ⟨rfl, HE.out⟩⟩, Below.refl _ _⟩
  · obtain ⟨A, n, c⟩ := s
    dsimp only at ha hn hc ⊢
    subst ha
    have HF := Lib.hid (hrw.flat (by decide))
    have HN := Lib.hid hn
    have HM := Lib.hid hm
    have hlen := flatten_length (mcells l) HL.out
    have HLEN := Lib.hid hlen
    obtain ⟨i0, hi, hz0, hz1, hz2⟩ := info_parts infoM
    have HI := Lib.hid hi
    have HZ0 := Lib.hid hz0
    have HZ1 := Lib.hid hz1
    have HZ2 := Lib.hid hz2
    clear hn hm hrw hi hz0 hz1 hz2 hlen hc
    go_enter Tryz.func86, Tryz.ntmps86
    go_wp2_with (at_builtin; refine wpList_append_own _ rfl _ _ 90 rfl w.heap.size 141 i0 _ 7 104 Tryz.underlying90 HI.out HZ0.out HZ1.out HZ2.out rfl (by decide) _ 0 [] rfl ⟨rfl, .inr ⟨w.heap.size, 0, #[], rfl, Nat.le_refl _, by exact heap_new _ _, by omega, by decide, rfl, rfl⟩⟩ ⟨r, 0, none⟩ n _ (mcells l).flatten rfl (by rw [HLEN.out, HN.out]) ?c1 H1.out ?c3 ?c4 ?c5 ?_)
    case c1 =>
      intro j u hj
      have := HF.out j u hj
      rw [show (Addr.add ⟨r, 0, none⟩ j) = ⟨r, j, none⟩ by unfold Addr.add; split <;> simp_all]
      exact (cell_old _ _ _ (by show r < _; exact hr)).trans this
    case c3 => have := HM.out; have := HN.out; unfold maxLen; omega
    case c4 => have := HM.out; have := HN.out; omega
    case c5 => simp
    intro v' w' hown hg _
    obtain ⟨s', rfl, hrow⟩ := RowB.of_own (l := mcells l) (by simpa using hown) HL.out (by decide) HM.out
    have HROW := Lib.hid hrow
    have HG := Lib.hid hg
    clear hown hrow hg
    go_wp2_with fail
    go_ret
    refine ⟨s', rfl, HROW.out, ?_⟩
    exact ((Below.refl w.heap.size w).alloc (Nat.le_refl _) _).grown HG.out (by simp) (fun j hj => by simp [Value.ownBlock] at hj; omega)
end Go.Proofs.YtgnoaeldmpbjmaaGreatDoor
/- value.Copy: the same value, in new memory. -/
namespace Go.Proofs.YtgnoaeldmpbjmaaGreatDoor
open Go.RowKit

/-- A value whose rows lie in blocks from lo on, below N, all that they reach from N on. -/
structure RepN (w : World) (lo N : Nat) (x : V6) (L : List V) (M : List (ByteArray × V)) (ys : List V6) (zs : List Mb) : Prop where
  rowL : RowB 1599289640401 w (fun g => lo ≤ g ∧ g < N) 92 6 x.list (vcells ys)
  rowM : RowB 1353245080339 w (fun g => lo ≤ g ∧ g < N) 141 7 x.map (mcells zs)
  apart : ∀ r, x.list.a = some ⟨r, 0, none⟩ → x.map.a = some ⟨r, 0, none⟩ → False
  lenL : ys.length = L.length
  lenM : zs.length = M.length
  elL : ∀ (i : Nat) (y : V6) (v : V), ys[i]? = some y → L[i]? = some v → RepV w (fun g => N ≤ g) y v
  keyM : ∀ (i : Nat) (m : Mb) (kv : ByteArray × V), zs[i]? = some m → M[i]? = some kv → m.key = kv.1
  elM : ∀ (i : Nat) (m : Mb) (kv : ByteArray × V), zs[i]? = some m → M[i]? = some kv → RepV w (fun g => N ≤ g) m.v kv.2
def Deep (w : World) (lo : Nat) (x : V6) (v : V) : Prop := ∃ N L M ys zs, lo ≤ N ∧ v = .mk x.kind x.yes x.int x.text L M ∧ RepN w lo N x L M ys zs
theorem RepN.stored {w : World} {lo N : Nat} {x : V6} {L : List V} {M : List (ByteArray × V)} {ys : List V6} {zs : List Mb} (h : RepN w lo N x L M ys zs) (hN : lo ≤ N) (g o : Nat) (vs : List Value) (hg : g < lo) : RepN (w.setCells g o vs) lo N x L M ys zs := by
  have hb : ∀ k, k ≠ g → (w.setCells g o vs).heap[k]? = w.heap[k]? := fun k hk => setCells_other g vs o w k hk
  have hs := (setCells_grown g vs o w).size
  exact ⟨h.rowL.same hs (fun k _ hk => hb k (by omega)), h.rowM.same hs (fun k _ hk => hb k (by omega)), h.apart, h.lenL, h.lenM, fun i y v hy hv => (h.elL i y v hy hv).same hs (fun k _ hk => hb k (by omega)), h.keyM, fun i m kv hm hkv => (h.elM i m kv hm hkv).same hs (fun k _ hk => hb k (by omega))⟩

/-- What Copy promises of a value, in whatever later world. -/
def CopyOk (w : World) (P : Nat → Prop) (x : V6) (v : V) : Prop :=
  ∀ W : World, w.heap.size ≤ W.heap.size → (∀ g, g < w.heap.size → P g → W.heap[g]? = w.heap[g]?) →
    Calls Tryz.prog 61 #[.agg x.cells] W fun e w' => ∃ x' : V6, e = .returned (.agg x'.cells) ∧ RepV w' (fun g => W.heap.size ≤ g) x' v ∧ Below W.heap.size W w' ∧ Deep w' W.heap.size x' v

/-- Behind the two clones. -/
structure CMid (W : World) (x : V6) (xs : List V6) (ms : List Mb) (sl sm : Sl) (wr : World) : Prop where
  box : wr.heap[W.heap.size]? = some (.cells #[.int .i64 x.kind, .bool x.yes, .int .i64 x.int, .string x.text, .slice sl.a sl.n sl.c, .slice sm.a sm.n sm.c] 92 (0, 0))
  res : wr.heap[W.heap.size + 1]? = some (.cells #[.int .i64 0, .bool false, .int .i64 0, .string ⟨#[]⟩, .slice none 0 0, .slice none 0 0] 92 (0, 0))
  rowL : RowB 1599289640401 wr (fun g => W.heap.size + 2 ≤ g) 92 6 sl (vcells xs)
  rowM : RowB 1353245080339 wr (fun g => W.heap.size + 2 ≤ g) 141 7 sm (mcells ms)
  apart : ∀ r, sl.a = some ⟨r, 0, none⟩ → sm.a = some ⟨r, 0, none⟩ → False
  below : Below W.heap.size W wr

theorem mid_close {W W2 wv : World} {x : V6} {xs : List V6} {ms : List Mb} {sl sm : Sl} (hcur : Below W.heap.size W W2) (hsz : W.heap.size + 2 ≤ W2.heap.size)
    (hx : W2.heap[W.heap.size]? = some (.cells x.cells 92 (0, 0))) (hr : W2.heap[W.heap.size + 1]? = some (.cells #[.int .i64 0, .bool false, .int .i64 0, .string ⟨#[]⟩, .slice none 0 0, .slice none 0 0] 92 (0, 0)))
    (hb : Below W2.heap.size W2 wv) (hl : RowB 1599289640401 wv (fun g => W2.heap.size ≤ g) 92 6 sl (vcells xs)) (hm : RowB 1353245080339 wv (fun g => W2.heap.size ≤ g) 141 7 sm (mcells ms))
    (hap : ∀ r, sl.a = some ⟨r, 0, none⟩ → sm.a = some ⟨r, 0, none⟩ → False) :
    CMid W x xs ms sl sm ((wv.setCell ⟨W.heap.size, 4, none⟩ (.slice sl.a sl.n sl.c)).setCell ⟨W.heap.size, 5, none⟩ (.slice sm.a sm.n sm.c)) := by
  have hbs := hb.size
  have hx' := (hb.block W.heap.size (by omega)).trans hx
  have hr' := (hb.block (W.heap.size + 1) (by omega)).trans hr
  have hother : ∀ g, g ≠ W.heap.size → ((wv.setCell ⟨W.heap.size, 4, none⟩ (.slice sl.a sl.n sl.c)).setCell ⟨W.heap.size, 5, none⟩ (.slice sm.a sm.n sm.c)).heap[g]? = wv.heap[g]? := fun g hg =>
    (Below.heap_setCell _ _ _ _ hg).trans (Below.heap_setCell _ _ _ _ hg)
  have hsame : ((wv.setCell ⟨W.heap.size, 4, none⟩ (.slice sl.a sl.n sl.c)).setCell ⟨W.heap.size, 5, none⟩ (.slice sm.a sm.n sm.c)).heap.size = wv.heap.size := by simp [World.setCell]
  refine ⟨?_, ?_, ?_, ?_, hap, ?_⟩
  · rw [setCell_heap_at (setCell_heap_at hx')]
    rfl
  · rw [hother _ (by omega)]; exact hr'
  · exact (hl.mono (Q := fun g => W.heap.size + 2 ≤ g) (fun g _ h => by omega)).same (by rw [hsame]; exact Nat.le_refl _) (fun g _ h => hother g (by omega))
  · exact (hm.mono (Q := fun g => W.heap.size + 2 ≤ g) (fun g _ h => by omega)).same (by rw [hsame]; exact Nat.le_refl _) (fun g _ h => hother g (by omega))
  · have h1 : Below W.heap.size W wv := hcur.trans (hb.mono hcur.size)
    refine ⟨by simp [World.setCell]; exact h1.os, by simp [World.setCell]; exact h1.tape, by simp [World.setCell]; exact h1.output, by rw [hsame]; exact h1.size, fun g hg => ?_⟩
    rw [hother g (by omega)]
    exact h1.block g hg

theorem CopyOk.at {w W W' : World} {P : Nat → Prop} {x : V6} {v : V} (h : CopyOk w P x v) (hs : w.heap.size ≤ W.heap.size) (hb : ∀ g, g < w.heap.size → P g → W.heap[g]? = w.heap[g]?) (hw : Below W.heap.size W W') :
    Calls Tryz.prog 61 #[.agg x.cells] W' fun e w' => ∃ x' : V6, e = .returned (.agg x'.cells) ∧ RepV w' (fun g => W'.heap.size ≤ g) x' v ∧ Below W'.heap.size W' w' ∧ Deep w' W'.heap.size x' v :=
  h W' (Nat.le_trans hs hw.size) (fun g hg hp => (hw.block g (Nat.lt_of_lt_of_le hg hs)).trans (hb g hg hp))
/-- A store into a row changes no value that lies elsewhere. -/
theorem RepV.stored {w : World} {P : Nat → Prop} {x : V6} {v : V} (h : RepV w P x v) (r o : Nat) (vs : List Value) (hr : ¬ P r) : RepV (w.setCells r o vs) P x v :=
  h.same (setCells_grown r vs o w).size (fun g _ hp => setCells_other r vs o w g (fun e => hr (e ▸ hp)))
/-- A store into another row than these leaves what stood behind the clones. -/
theorem CMid.store {W : World} {x : V6} {ys ys' : List V6} {zs zs' : List Mb} {sl sm : Sl} {wr wv : World} {r o : Nat} {vs : List Value} (h : CMid W x ys zs sl sm wr) (hb : Below wr.heap.size wr wv) (hr : W.heap.size + 2 ≤ r)
    (hl : RowB 1599289640401 (wv.setCells r o vs) (fun g => W.heap.size + 2 ≤ g) 92 6 sl (vcells ys')) (hm : RowB 1353245080339 (wv.setCells r o vs) (fun g => W.heap.size + 2 ≤ g) 141 7 sm (mcells zs')) :
    CMid W x ys' zs' sl sm (wv.setCells r o vs) := by
  have ho : ∀ g, g ≠ r → (wv.setCells r o vs).heap[g]? = wv.heap[g]? := fun g hg => setCells_other r vs o wv g hg
  have hbl := (Array.getElem?_eq_some_iff.1 h.box).1
  have hres := h.res
  have hrl := (Array.getElem?_eq_some_iff.1 hres).1
  refine ⟨?_, ?_, hl, hm, h.apart, ?_⟩
  · rw [ho _ (by omega)]; exact (hb.block _ hbl).trans h.box
  · rw [ho _ (by omega)]; exact (hb.block _ hrl).trans hres
  · have h1 : Below W.heap.size W wv := h.below.trans (hb.mono h.below.size)
    have hg := setCells_grown r vs o wv
    exact ⟨hg.os.trans h1.os, hg.tape.trans h1.tape, hg.output.trans h1.output, Nat.le_trans h1.size hg.size, fun g hg' => (ho g (by omega)).trans (h1.block g hg')⟩
/-- The first loop's head. -/
structure CL1 (W : World) (x : V6) (L : List V) (xs : List V6) (ms : List Mb) (sl sm : Sl) (N k : Nat) (ys : List V6) (wr : World) : Prop where
  mid : CMid W x ys ms sl sm wr
  len : ys.length = xs.length
  new : ∀ (j : Nat) (y : V6) (v : V), j < k → ys[j]? = some y → L[j]? = some v → RepV wr (fun g => N ≤ g) y v
  old : ∀ j, k ≤ j → ys[j]? = xs[j]?
  size : N ≤ wr.heap.size
  rl : ∀ r, sl.a = some ⟨r, 0, none⟩ → r < N
  rm : ∀ r, sm.a = some ⟨r, 0, none⟩ → r < N
theorem CL1.step {W : World} {x : V6} {L : List V} {xs : List V6} {ms : List Mb} {sl sm : Sl} {N k N' : Nat} {ys : List V6} {wr wv : World} {y' : V6} {v : V} {r : Nat} (h : CL1 W x L xs ms sl sm N k ys wr) (hk : k < xs.length) (hv : L[k]? = some v)
    (ha : sl.a = some ⟨r, 0, none⟩) (hb : Below wr.heap.size wr wv) (hN : wr.heap.size ≤ N') (hrep : RepV wv (fun g => N' ≤ g) y' v) :
    CL1 W x L xs ms sl sm N (k + 1) (ys.set k y') (wv.setCells r (k * 6) y'.cells.toList) := by
  obtain ⟨hrP, hrl, hrw⟩ := h.mid.rowL.at ha
  have hrN := h.rl r ha
  have hs := h.size
  have hk2 : k < ys.length := by rw [h.len]; exact hk
  have hset : vcells (ys.set k y') = (vcells ys).set k y'.cells.toList := by simp [vcells, List.map_set]
  have hrw2 : Rw (wv.setCells r (k * 6) y'.cells.toList) 92 r sl.c 6 (vcells (ys.set k y')) := by
    rw [hset]
    exact (hrw.below hb hrl).put k (by simpa using hk2) _ rfl
  have hg := setCells_grown r y'.cells.toList (k * 6) wv
  have hwv := hb.size
  refine ⟨h.mid.store hb hrP ?_ ?_, by simp [h.len], ?_, ?_, Nat.le_trans hs (Nat.le_trans hwv hg.size), h.rl, h.rm⟩
  · obtain ⟨a1, a2, a3⟩ := h.mid.rowL
    refine ⟨by simpa using a1, by simpa using a2, .inr ⟨r, ha, ?_, hrP, ?_, hrw2⟩⟩
    · rcases a3 with ⟨e, _⟩ | ⟨_, _, e, _⟩
      · rw [e] at ha; cases ha
      · exact e
    · exact hrw2.lt
  · exact h.mid.rowM.kept (Nat.le_trans hwv hg.size) (fun g hgl hga => (setCells_other r _ _ wv g (fun e => h.mid.apart r ha (e ▸ hga))).trans (hb.block g hgl))
  · intro j y u hj hy hu
    by_cases hjk : j = k
    · subst hjk
      rw [List.getElem?_set_self hk2] at hy
      cases hy
      rw [hv] at hu
      cases hu
      exact (hrep.mono (fun g _ hg => by omega)).stored r _ _ (by omega)
    · rw [List.getElem?_set_ne (fun e => hjk e.symm)] at hy
      exact ((h.new j y u (by omega) hy hu).same hwv (fun g hgl _ => hb.block g hgl)).stored r _ _ (by omega)
  · intro j hj
    rw [List.getElem?_set_ne (by omega)]
    exact h.old j (by omega)

/-- The second loop's head. -/
structure CL2 (W : World) (x : V6) (L : List V) (M : List (ByteArray × V)) (ms : List Mb) (sl sm : Sl) (N k : Nat) (ys : List V6) (zs : List Mb) (wr : World) : Prop where
  mid : CMid W x ys zs sl sm wr
  lenL : ys.length = L.length
  len : zs.length = ms.length
  allL : ∀ (j : Nat) (y : V6) (v : V), ys[j]? = some y → L[j]? = some v → RepV wr (fun g => N ≤ g) y v
  keys : ∀ (j : Nat) (z m : Mb), zs[j]? = some z → ms[j]? = some m → z.key = m.key
  new : ∀ (j : Nat) (z : Mb) (kv : ByteArray × V), j < k → zs[j]? = some z → M[j]? = some kv → RepV wr (fun g => N ≤ g) z.v kv.2
  old : ∀ j, k ≤ j → zs[j]? = ms[j]?
  size : N ≤ wr.heap.size
  rl : ∀ r, sl.a = some ⟨r, 0, none⟩ → r < N
  rm : ∀ r, sm.a = some ⟨r, 0, none⟩ → r < N
theorem CL1.done {W : World} {x : V6} {L : List V} {M : List (ByteArray × V)} {xs : List V6} {ms : List Mb} {sl sm : Sl} {N : Nat} {ys : List V6} {wr : World} (h : CL1 W x L xs ms sl sm N xs.length ys wr) (hl : xs.length = L.length) : CL2 W x L M ms sl sm N 0 ys ms wr :=
  ⟨h.mid, h.len.trans hl, rfl, fun j y v hy hv => h.new j y v (by have := (List.getElem?_eq_some_iff.1 hy).1; have := h.len; omega) hy hv, fun j z m hz hm => by rw [hz] at hm; cases hm; rfl, fun j z kv hj => absurd hj (by omega), fun j _ => rfl, h.size, h.rl, h.rm⟩
theorem CL2.step {W : World} {x : V6} {L : List V} {M : List (ByteArray × V)} {ms : List Mb} {sl sm : Sl} {N k N' : Nat} {ys : List V6} {zs : List Mb} {wr wv : World} {y' : V6} {kv : ByteArray × V} {m : Mb} {r : Nat} (h : CL2 W x L M ms sl sm N k ys zs wr) (hm : zs[k]? = some m) (hv : M[k]? = some kv)
    (ha : sm.a = some ⟨r, 0, none⟩) (hb : Below wr.heap.size wr wv) (hN : wr.heap.size ≤ N') (hrep : RepV wv (fun g => N' ≤ g) y' kv.2) :
    CL2 W x L M ms sl sm N (k + 1) ys (zs.set k ⟨m.key, y'⟩) (wv.setCells r (k * 7 + 1) y'.cells.toList) := by
  obtain ⟨hrP, hrl, hrw⟩ := h.mid.rowM.at ha
  have hrN := h.rm r ha
  have hs := h.size
  have hk2 : k < zs.length := (List.getElem?_eq_some_iff.1 hm).1
  have hset : mcells (zs.set k ⟨m.key, y'⟩) = (mcells zs).set k (.string m.key :: y'.cells.toList) := by simp [mcells, List.map_set]
  have hrw2 : Rw (wv.setCells r (k * 7 + 1) y'.cells.toList) 141 r sm.c 7 (mcells (zs.set k ⟨m.key, y'⟩)) := by
    rw [hset]
    exact (hrw.below hb hrl).putTail k _ m.v.cells.toList _ (by simp [hm]) rfl
  have hg := setCells_grown r y'.cells.toList (k * 7 + 1) wv
  have hwv := hb.size
  refine ⟨h.mid.store hb hrP ?_ ?_, h.lenL, by simp [h.len], ?_, ?_, ?_, ?_, Nat.le_trans hs (Nat.le_trans hwv hg.size), h.rl, h.rm⟩
  · exact h.mid.rowL.kept (Nat.le_trans hwv hg.size) (fun g hgl hga => (setCells_other r _ _ wv g (fun e => h.mid.apart g hga (e ▸ ha))).trans (hb.block g hgl))
  · obtain ⟨a1, a2, a3⟩ := h.mid.rowM
    refine ⟨by simpa using a1, by simpa using a2, .inr ⟨r, ha, ?_, hrP, ?_, hrw2⟩⟩
    · rcases a3 with ⟨e, _⟩ | ⟨_, _, e, _⟩
      · rw [e] at ha; cases ha
      · exact e
    · exact hrw2.lt
  · intro j y v hy hv'
    exact ((h.allL j y v hy hv').same hwv (fun g hgl _ => hb.block g hgl)).stored r _ _ (by omega)
  · intro j z m' hz hm'
    by_cases hjk : j = k
    · subst hjk
      rw [List.getElem?_set_self hk2] at hz
      cases hz
      exact h.keys j m m' hm hm'
    · rw [List.getElem?_set_ne (fun e => hjk e.symm)] at hz
      exact h.keys j z m' hz hm'
  · intro j z u hj hz hu
    by_cases hjk : j = k
    · subst hjk
      rw [List.getElem?_set_self hk2] at hz
      cases hz
      rw [hv] at hu
      cases hu
      exact (hrep.mono (fun g _ hg => by omega)).stored r _ _ (by omega)
    · rw [List.getElem?_set_ne (fun e => hjk e.symm)] at hz
      exact ((h.new j z u (by omega) hz hu).same hwv (fun g hgl _ => hb.block g hgl)).stored r _ _ (by omega)
  · intro j hj
    rw [List.getElem?_set_ne (by omega)]
    exact h.old j (by omega)
theorem CL2.done {W : World} {x : V6} {L : List V} {M : List (ByteArray × V)} {ms : List Mb} {sl sm : Sl} {N : Nat} {ys : List V6} {zs : List Mb} {wr : World} (h : CL2 W x L M ms sl sm N ms.length ys zs wr) (hl : ms.length = M.length)
    (hk : ∀ (i : Nat) (m : Mb) (kv : ByteArray × V), ms[i]? = some m → M[i]? = some kv → m.key = kv.1) (hN : W.heap.size + 2 ≤ N) : RepV wr (fun g => W.heap.size + 2 ≤ g) ⟨x.kind, x.yes, x.int, x.text, sl, sm⟩ (.mk x.kind x.yes x.int x.text L M) :=
  .mk ⟨x.kind, x.yes, x.int, x.text, sl, sm⟩ L M ys zs (h.mid.rowL.mono (fun g _ hg => by omega)) (h.mid.rowM.mono (fun g _ hg => by omega)) h.lenL (h.len.trans hl)
    (fun i y v hy hv => (h.allL i y v hy hv).mono (fun g _ hg => by omega))
    (fun i z kv hz hkv => by
      have hi : i < ms.length := by have := (List.getElem?_eq_some_iff.1 hz).1; have := h.len; omega
      have hm : ms[i]? = some ms[i] := List.getElem?_eq_getElem hi
      rw [h.keys i z _ hz hm]
      exact hk i _ kv hm hkv)
    (fun i z kv hz hkv => (h.new i z kv (by have := (List.getElem?_eq_some_iff.1 hz).1; have := h.len; omega) hz hkv).mono (fun g _ hg => by omega))

theorem CL2.deep {W : World} {x : V6} {L : List V} {M : List (ByteArray × V)} {ms : List Mb} {sl sm : Sl} {N : Nat} {ys : List V6} {zs : List Mb} {wr : World} (h : CL2 W x L M ms sl sm N ms.length ys zs wr) (hl : ms.length = M.length)
    (hk : ∀ (i : Nat) (m : Mb) (kv : ByteArray × V), ms[i]? = some m → M[i]? = some kv → m.key = kv.1) : RepN wr (W.heap.size + 2) N ⟨x.kind, x.yes, x.int, x.text, sl, sm⟩ L M ys zs :=
  ⟨h.mid.rowL.both (fun r ha hp => ⟨hp, h.rl r ha⟩), h.mid.rowM.both (fun r ha hp => ⟨hp, h.rm r ha⟩), h.mid.apart, h.lenL, h.len.trans hl, fun i y v hy hv => h.allL i y v hy hv,
    fun i z kv hz hkv => by
      have hi : i < ms.length := by have := (List.getElem?_eq_some_iff.1 hz).1; have := h.len; omega
      have hm : ms[i]? = some ms[i] := List.getElem?_eq_getElem hi
      rw [h.keys i z _ hz hm]
      exact hk i _ kv hm hkv,
    fun i z kv hz hkv => h.new i z kv (by have := (List.getElem?_eq_some_iff.1 hz).1; have := h.len; omega) hz hkv⟩

set_option maxRecDepth 100000 in
theorem copy_step (w : World) (P : Nat → Prop) (x : V6) (L : List V) (M : List (ByteArray × V)) (xs : List V6) (ms : List Mb)
    (hL : RowB 1599289640401 w P 92 6 x.list (vcells xs)) (hM : RowB 1353245080339 w P 141 7 x.map (mcells ms))
    (lenL : xs.length = L.length) (lenM : ms.length = M.length)
    (keyM : ∀ (i : Nat) (m : Mb) (kv : ByteArray × V), ms[i]? = some m → M[i]? = some kv → m.key = kv.1)
    (ih1 : ∀ (i : Nat) (y : V6) (v : V), xs[i]? = some y → L[i]? = some v → CopyOk w P y v)
    (ih2 : ∀ (i : Nat) (m : Mb) (kv : ByteArray × V), ms[i]? = some m → M[i]? = some kv → CopyOk w P m.v kv.2) :
    CopyOk w P x (.mk x.kind x.yes x.int x.text L M) := by
  intro W hWs hWb
  have hL1 := hL.same hWs hWb
  have hM1 := hM.same hWs hWb
  have HWS := Lib.hid hWs
  have HWB := Lib.hid hWb
  have HIH1 := Lib.hid ih1
  have HIH2 := Lib.hid ih2
  have HK := Lib.hid keyM
  have HLL := Lib.hid lenL
  have HLM := Lib.hid lenM
  obtain ⟨W2, hW2⟩ : ∃ W2, W2 = (W.alloc (.cells x.cells 92)).alloc (.cells #[.int .i64 0, .bool false, .int .i64 0, .string ⟨#[]⟩, .slice none 0 0, .slice none 0 0] 92) := ⟨_, rfl⟩
  have HCV := Lib.hid (fun (W' : World) (h : Below W.heap.size W W') => cloneV_calls W' P x.list xs (hL1.same h.size (fun g hg _ => h.block g hg)))
  have HCM := Lib.hid (fun (W' : World) (h : Below W.heap.size W W') => cloneM_calls W' P x.map ms (hM1.same h.size (fun g hg _ => h.block g hg)))
  have HW2 := Lib.hid hW2
  clear hL hM hWs hWb hL1 hM1 ih1 ih2 keyM lenL lenM hW2
  go_enter Tryz.func61, Tryz.ntmps61
  go_wp2_with fail
  rw [← HW2.out]
  have hx2 : W2.heap[W.heap.size]? = some (.cells x.cells 92 (0, 0)) := by rw [HW2.out]; exact (Below.heap_alloc _ _ _ (by simp)).trans (heap_new _ _)
  have hr2 : W2.heap[W.heap.size + 1]? = some (.cells #[.int .i64 0, .bool false, .int .i64 0, .string ⟨#[]⟩, .slice none 0 0, .slice none 0 0] 92 (0, 0)) := by rw [HW2.out]; have := heap_new (W.alloc (.cells x.cells 92)) (.cells #[.int .i64 0, .bool false, .int .i64 0, .string ⟨#[]⟩, .slice none 0 0, .slice none 0 0] 92 (0, 0)); rw [show (W.alloc (.cells x.cells 92)).heap.size = W.heap.size + 1 by simp] at this; exact this
  have hcur : Below W.heap.size W W2 := by rw [HW2.out]; exact ((Below.refl _ _).alloc (Nat.le_refl _) _).alloc (by simp) _
  have hsz : W.heap.size + 2 ≤ W2.heap.size := by rw [HW2.out]; simp
  clear HW2
  have k4 : W2.cell? ⟨W.heap.size, 4, none⟩ = some (.slice x.list.a x.list.n x.list.c) := by simp [World.cell?, hx2]
  have k5 : W2.cell? ⟨W.heap.size, 5, none⟩ = some (.slice x.map.a x.map.n x.map.c) := by simp [World.cell?, hx2]
  have kz : ∀ o, W2.frozen? ⟨W.heap.size, o, none⟩ = false := fun o => by simp [World.frozen?, hx2]
  have HX2 := Lib.hid hx2
  have HR2 := Lib.hid hr2
  have HCUR := Lib.hid hcur
  clear hx2 hr2 hcur
  go_cut [] (fun wx => ∃ sl sm, CMid W x xs ms sl sm wx)
  case first =>
    go_region_law (first
      | (go_simp; go_at_call 85
         first
         | (refine (HCV.out _ HCUR3.out).mono ?_; rintro e wv ⟨sl, rfl, hrl, hb⟩
            have hlt : W.heap.size < wv.heap.size := by have := hb.size; omega
            have k4 := (hb.cell (p := ⟨W.heap.size, 4, none⟩) (by show W.heap.size < _; omega)).trans k4
            have k5 := (hb.cell (p := ⟨W.heap.size, 5, none⟩) (by show W.heap.size < _; omega)).trans k5
            have kz : ∀ o, wv.frozen? ⟨W.heap.size, o, none⟩ = false := fun o => (World.frozen?_of_block (hb.block _ (by show W.heap.size < _; omega))).trans (kz o)
            have HRL := Lib.hid hrl
            have HBL := Lib.hid hb
            clear hrl hb)
         | (refine (HCV.out _ HCUR.out.drew).mono ?_; rintro e wu ⟨sl, rfl, hrl, hb0⟩
            have hb : Below W2.heap.size W2 wu := ⟨hb0.os, hb0.tape, hb0.output, hb0.size, hb0.block⟩
            clear hb0
            have hlt : W.heap.size < wu.heap.size := by have := hb.size; omega
            have hsz3 : W.heap.size + 2 ≤ wu.heap.size := by have := hb.size; omega
            have k4 := (hb.cell (p := ⟨W.heap.size, 4, none⟩) (by show W.heap.size < _; omega)).trans k4
            have k5 := (hb.cell (p := ⟨W.heap.size, 5, none⟩) (by show W.heap.size < _; omega)).trans k5
            have kz : ∀ o, wu.frozen? ⟨W.heap.size, o, none⟩ = false := fun o => (World.frozen?_of_block (hb.block _ (by show W.heap.size < _; omega))).trans (kz o)
            have HCUR2 := Lib.hid (HCUR.out.trans (hb.mono HCUR.out.size))
            have HRL := Lib.hid hrl
            have HBL := Lib.hid hb
            clear hrl hb))
      | (go_simp; go_at_call 86
         first
         | (refine (HCM.out _ HCUR2.out).mono ?_; rintro e wv ⟨sm, rfl, hrm, hb⟩
            have hlt : W.heap.size < wv.heap.size := by have := hb.size; omega
            have k4 := (hb.cell (p := ⟨W.heap.size, 4, none⟩) (by show W.heap.size < _; omega)).trans k4
            have k5 := (hb.cell (p := ⟨W.heap.size, 5, none⟩) (by show W.heap.size < _; omega)).trans k5
            have kz : ∀ o, wv.frozen? ⟨W.heap.size, o, none⟩ = false := fun o => (World.frozen?_of_block (hb.block _ (by show W.heap.size < _; omega))).trans (kz o)
            have HRM := Lib.hid hrm
            have HBM := Lib.hid hb
            clear hrm hb)
         | (refine (HCM.out _ HCUR.out.drew).mono ?_; rintro e wu ⟨sm, rfl, hrm, hb0⟩
            have hb : Below W2.heap.size W2 wu := ⟨hb0.os, hb0.tape, hb0.output, hb0.size, hb0.block⟩
            clear hb0
            have hlt : W.heap.size < wu.heap.size := by have := hb.size; omega
            have hsz3 : W.heap.size + 2 ≤ wu.heap.size := by have := hb.size; omega
            have k4 := (hb.cell (p := ⟨W.heap.size, 4, none⟩) (by show W.heap.size < _; omega)).trans k4
            have k5 := (hb.cell (p := ⟨W.heap.size, 5, none⟩) (by show W.heap.size < _; omega)).trans k5
            have kz : ∀ o, wu.frozen? ⟨W.heap.size, o, none⟩ = false := fun o => (World.frozen?_of_block (hb.block _ (by show W.heap.size < _; omega))).trans (kz o)
            have HCUR3 := Lib.hid (HCUR.out.trans (hb.mono HCUR.out.size))
            have HRM := Lib.hid hrm
            have HBM := Lib.hid hb
            clear hrm hb)))
    all_goals
      go_wp2_with fail
      go_meet
      first
      | (refine ⟨sl, sm, mid_close HCUR.out hsz HX2.out HR2.out (HBL.out.trans (HBM.out.mono HBL.out.size)) ((HRL.out.same HBM.out.size (fun g hg _ => HBM.out.block g hg)).mono (fun g _ h => h)) (HRM.out.mono (fun g _ h => Nat.le_trans HBL.out.size h)) (fun r h1 h2 => ?_)⟩
         have e1 := (HRL.out.at h1).2.1
         have e2 := (HRM.out.at h2).1
         omega)
      | (refine ⟨sl, sm, mid_close HCUR.out hsz HX2.out HR2.out (HBM.out.trans (HBL.out.mono HBM.out.size)) (HRL.out.mono (fun g _ h => Nat.le_trans HBM.out.size h)) ((HRM.out.same HBL.out.size (fun g hg _ => HBL.out.block g hg)).mono (fun g _ h => h)) (fun r h1 h2 => ?_)⟩
         have e1 := (HRM.out.at h2).2.1
         have e2 := (HRL.out.at h1).1
         omega)
  case rest =>
    obtain ⟨sl, sm, hmid⟩ := hcut
    have HMID := Lib.hid hmid
    clear HCV HCM HX2 HR2 HCUR k4 k5 kz hmid
    have hbox := HMID.out.box
    have k4 : wc.cell? ⟨W.heap.size, 4, none⟩ = some (.slice sl.a sl.n sl.c) := by simp [World.cell?, hbox]
    have hxl : sl.n = xs.length := by have := HMID.out.rowL.1; simpa using this
    have hx6 : xs.length ≤ 1599289640401 := by have := HMID.out.rowL.2.1; simpa using this
    have hlt0 : W.heap.size + 1 < wc.heap.size := (Array.getElem?_eq_some_iff.1 HMID.out.res).1
    clear hbox
    go_wp2_with fail
    go_loopw [18] (fun c wr => ∃ (k : Nat) (ys : List V6), k ≤ xs.length ∧ c = .int .i64 k ∧ CL1 W x L xs ms sl sm wc.heap.size k ys wr) (fun c _ => xs.length - (intOf c).toNat)
    case atStart => exact ⟨0, xs, by omega, rfl, HMID.out, rfl, fun j y v hj => absurd hj (by omega), fun j _ => rfl, Nat.le_refl _, fun r h => (HMID.out.rowL.at h).2.1, fun r h => (HMID.out.rowM.at h).2.1⟩
    case round =>
      obtain ⟨k, ys, hk, rfl, hcl⟩ := hrel
      have HCL := Lib.hid hcl
      clear HMID k4 hcl
      by_cases hlt : k < xs.length
      · have hy : xs[k]? = some xs[k] := List.getElem?_eq_getElem hlt
        generalize xs[k] = y at hy
        have hy2 : ys[k]? = some y := (HCL.out.old k (Nat.le_refl _)).trans hy
        have hv : L[k]? = some L[k] := List.getElem?_eq_getElem (by have := HLL.out; omega)
        generalize L[k] = v at hv
        have hyc : (vcells ys)[k]? = some y.cells.toList := by simp [hy2]
        have hmid := HCL.out.mid
        obtain ⟨r, ha⟩ : ∃ r, sl.a = some ⟨r, 0, none⟩ := by
          rcases hmid.rowL.2.2 with ⟨hs, hn⟩ | ⟨r, h1, _⟩
          · have := congrArg List.length hn; simp at this; have := HCL.out.len; rw [‹ys = []›] at this; simp at this; omega
          · exact ⟨r, h1⟩
        obtain ⟨hrP, hrl, hrw⟩ := hmid.rowL.at ha
        have c0 : wr.cell? ⟨r, k * 6, none⟩ = some (.int .i64 y.kind) := hrw.cell (d := 0) hyc rfl
        have c1 : wr.cell? ⟨r, k * 6 + 1, none⟩ = some (.bool y.yes) := hrw.cell (d := 1) hyc rfl
        have c2 : wr.cell? ⟨r, k * 6 + 2, none⟩ = some (.int .i64 y.int) := hrw.cell (d := 2) hyc rfl
        have c3 : wr.cell? ⟨r, k * 6 + 3, none⟩ = some (.string y.text) := hrw.cell (d := 3) hyc rfl
        have c4 : wr.cell? ⟨r, k * 6 + 4, none⟩ = some (.slice y.list.a y.list.n y.list.c) := hrw.cell (d := 4) hyc rfl
        have c5 : wr.cell? ⟨r, k * 6 + 5, none⟩ = some (.slice y.map.a y.map.n y.map.c) := hrw.cell (d := 5) hyc rfl
        have hfz := fun o => hrw.frozen o
        have k4 : wr.cell? ⟨W.heap.size, 4, none⟩ = some (.slice (some ⟨r, 0, none⟩) sl.n sl.c) := by rw [← ha]; simp [World.cell?, hmid.box]
        have HB := Lib.hid hmid.below
        have hltr := (Array.getElem?_eq_some_iff.1 hmid.box).1
        have HRW := Lib.hid hrw
        have HY := Lib.hid hy
        have HV := Lib.hid hv
        have HY2 := Lib.hid hy2
        have HC := Lib.hid (HIH1.out k y v hy hv)
        have HAA := Lib.hid ha
        rw [ha]
        clear hy hv hy2 hyc hmid hrw ha
        go_wp2_with fail
        go_region_law (go_simp; go_at_call 61; refine (CopyOk.at HC.out HWS.out HWB.out (HB.out.alloc HB.out.size _).drew).mono ?_; rintro e wv ⟨y', rfl, hrep, hb0, _⟩
                       have hb : Below wr.heap.size wr wv := (Below.alloc (Below.refl wr.heap.size wr) (Nat.le_refl _) _).trans ⟨hb0.os, hb0.tape, hb0.output, hb0.size, fun g hg => hb0.block g (by simp; omega)⟩
                       have k4 := (hb.cell (p := ⟨W.heap.size, 4, none⟩) (by show W.heap.size < _; omega)).trans k4
                       have c0 := (hb.cell (p := ⟨r, k * 6, none⟩) (by show r < _; omega)).trans c0
                       have c1 := (hb.cell (p := ⟨r, k * 6 + 1, none⟩) (by show r < _; omega)).trans c1
                       have c2 := (hb.cell (p := ⟨r, k * 6 + 2, none⟩) (by show r < _; omega)).trans c2
                       have c3 := (hb.cell (p := ⟨r, k * 6 + 3, none⟩) (by show r < _; omega)).trans c3
                       have c4 := (hb.cell (p := ⟨r, k * 6 + 4, none⟩) (by show r < _; omega)).trans c4
                       have c5 := (hb.cell (p := ⟨r, k * 6 + 5, none⟩) (by show r < _; omega)).trans c5
                       have hfz : ∀ o, wv.frozen? ⟨r, o, none⟩ = false := fun o => (World.frozen?_of_block (hb.block _ (by show r < _; omega))).trans (hfz o)
                       have HREP := Lib.hid hrep
                       have HBB := Lib.hid hb
                       clear hrep hb hb0)
        all_goals
          go_wp2_with fail
          exact ⟨⟨k + 1, ys.set k y', by omega, by go_num, HCL.out.step hlt HV.out HAA.out HBB.out (by simp) HREP.out⟩, by simp [intOf]; omega⟩
      · obtain rfl : k = xs.length := by omega
        have hc2 : CL2 W x L M ms sl sm wc.heap.size 0 ys ms wr := HCL.out.done HLL.out
        have HC2 := Lib.hid hc2
        have hbox := hc2.mid.box
        have k5 : wr.cell? ⟨W.heap.size, 5, none⟩ = some (.slice sm.a sm.n sm.c) := by simp [World.cell?, hbox]
        have hxm : sm.n = ms.length := by have := hc2.mid.rowM.1; simpa using this
        have hm6 : ms.length ≤ 1353245080339 := by have := hc2.mid.rowM.2.1; simpa using this
        clear hbox hc2 HCL
        go_wp2_with fail
        go_loopw [33] (fun c wr => ∃ (k : Nat) (zs : List Mb), k ≤ ms.length ∧ c = .int .i64 k ∧ CL2 W x L M ms sl sm wc.heap.size k ys zs wr) (fun c _ => ms.length - (intOf c).toNat)
        case atStart => exact ⟨0, ms, by omega, rfl, HC2.out⟩
        case round =>
          obtain ⟨k, zs, hk, rfl, hcl⟩ := hrel
          have HCL := Lib.hid hcl
          clear HC2 k5 hcl
          by_cases hlt : k < ms.length
          · have hy : ms[k]? = some ms[k] := List.getElem?_eq_getElem hlt
            generalize ms[k] = m at hy
            have hy2 : zs[k]? = some m := (HCL.out.old k (Nat.le_refl _)).trans hy
            have hv : M[k]? = some M[k] := List.getElem?_eq_getElem (by have := HLM.out; omega)
            generalize M[k] = kv at hv
            have hyc : (mcells zs)[k]? = some m.cells.toList := by simp [hy2]
            have hmid := HCL.out.mid
            obtain ⟨r, ha⟩ : ∃ r, sm.a = some ⟨r, 0, none⟩ := by
              rcases hmid.rowM.2.2 with ⟨hs, hn⟩ | ⟨r, h1, _⟩
              · have := congrArg List.length hn; simp at this; have := HCL.out.len; rw [‹zs = []›] at this; simp at this; omega
              · exact ⟨r, h1⟩
            obtain ⟨hrP, hrl, hrw⟩ := hmid.rowM.at ha
            have c0 : wr.cell? ⟨r, k * 7, none⟩ = some (.string m.key) := hrw.cell (d := 0) hyc rfl
            have c1 : wr.cell? ⟨r, k * 7 + 1, none⟩ = some (.int .i64 m.v.kind) := hrw.cell (d := 1) hyc rfl
            have c2 : wr.cell? ⟨r, k * 7 + 2, none⟩ = some (.bool m.v.yes) := hrw.cell (d := 2) hyc rfl
            have c3 : wr.cell? ⟨r, k * 7 + 3, none⟩ = some (.int .i64 m.v.int) := hrw.cell (d := 3) hyc rfl
            have c4 : wr.cell? ⟨r, k * 7 + 4, none⟩ = some (.string m.v.text) := hrw.cell (d := 4) hyc rfl
            have c5 : wr.cell? ⟨r, k * 7 + 5, none⟩ = some (.slice m.v.list.a m.v.list.n m.v.list.c) := hrw.cell (d := 5) hyc rfl
            have c6 : wr.cell? ⟨r, k * 7 + 6, none⟩ = some (.slice m.v.map.a m.v.map.n m.v.map.c) := hrw.cell (d := 6) hyc rfl
            have hfz := fun o => hrw.frozen o
            have k5 : wr.cell? ⟨W.heap.size, 5, none⟩ = some (.slice (some ⟨r, 0, none⟩) sm.n sm.c) := by rw [← ha]; simp [World.cell?, hmid.box]
            have HB := Lib.hid hmid.below
            have hltr := (Array.getElem?_eq_some_iff.1 hmid.box).1
            have HV := Lib.hid hv
            have HY2 := Lib.hid hy2
            have HC := Lib.hid (HIH2.out k m kv hy hv)
            have HAA := Lib.hid ha
            rw [ha]
            clear hy hv hy2 hyc hmid hrw ha
            go_wp2_with fail
            go_region_law (go_simp; go_at_call 61; refine (CopyOk.at HC.out HWS.out HWB.out (HB.out.alloc HB.out.size _).drew).mono ?_; rintro e wv ⟨y', rfl, hrep, hb0, _⟩
                           have hb : Below wr.heap.size wr wv := (Below.alloc (Below.refl wr.heap.size wr) (Nat.le_refl _) _).trans ⟨hb0.os, hb0.tape, hb0.output, hb0.size, fun g hg => hb0.block g (by simp; omega)⟩
                           have k5 := (hb.cell (p := ⟨W.heap.size, 5, none⟩) (by show W.heap.size < _; omega)).trans k5
                           have c0 := (hb.cell (p := ⟨r, k * 7, none⟩) (by show r < _; omega)).trans c0
                           have c1 := (hb.cell (p := ⟨r, k * 7 + 1, none⟩) (by show r < _; omega)).trans c1
                           have c2 := (hb.cell (p := ⟨r, k * 7 + 2, none⟩) (by show r < _; omega)).trans c2
                           have c3 := (hb.cell (p := ⟨r, k * 7 + 3, none⟩) (by show r < _; omega)).trans c3
                           have c4 := (hb.cell (p := ⟨r, k * 7 + 4, none⟩) (by show r < _; omega)).trans c4
                           have c5 := (hb.cell (p := ⟨r, k * 7 + 5, none⟩) (by show r < _; omega)).trans c5
                           have c6 := (hb.cell (p := ⟨r, k * 7 + 6, none⟩) (by show r < _; omega)).trans c6
                           have hfz : ∀ o, wv.frozen? ⟨r, o, none⟩ = false := fun o => (World.frozen?_of_block (hb.block _ (by show r < _; omega))).trans (hfz o)
                           have HREP := Lib.hid hrep
                           have HBB := Lib.hid hb
                           clear hrep hb hb0)
            all_goals
              go_wp2_with fail
              exact ⟨⟨k + 1, zs.set k ⟨m.key, y'⟩, by omega, by go_num, HCL.out.step HY2.out HV.out HAA.out HBB.out (by simp) HREP.out⟩, by simp [intOf]; omega⟩
          · obtain rfl : k = ms.length := by omega
            have HREP := Lib.hid (HCL.out.done HLM.out HK.out (by omega))
            have HDEEP := Lib.hid (HCL.out.deep HLM.out HK.out)
            have hbox := HCL.out.mid.box
            have hres := HCL.out.mid.res
            have b0 : wr.cell? ⟨W.heap.size, 0, none⟩ = some (.int .i64 x.kind) := by simp [World.cell?, hbox]
            have b1 : wr.cell? ⟨W.heap.size, 1, none⟩ = some (.bool x.yes) := by simp [World.cell?, hbox]
            have b2 : wr.cell? ⟨W.heap.size, 2, none⟩ = some (.int .i64 x.int) := by simp [World.cell?, hbox]
            have b3 : wr.cell? ⟨W.heap.size, 3, none⟩ = some (.string x.text) := by simp [World.cell?, hbox]
            have b4 : wr.cell? ⟨W.heap.size, 4, none⟩ = some (.slice sl.a sl.n sl.c) := by simp [World.cell?, hbox]
            have b5 : wr.cell? ⟨W.heap.size, 5, none⟩ = some (.slice sm.a sm.n sm.c) := by simp [World.cell?, hbox]
            have z0 : wr.cell? ⟨W.heap.size + 1, 0, none⟩ = some (.int .i64 0) := by simp [World.cell?, hres]
            have z1 : wr.cell? ⟨W.heap.size + 1, 1, none⟩ = some (.bool false) := by simp [World.cell?, hres]
            have z2 : wr.cell? ⟨W.heap.size + 1, 2, none⟩ = some (.int .i64 0) := by simp [World.cell?, hres]
            have z3 : wr.cell? ⟨W.heap.size + 1, 3, none⟩ = some (.string ⟨#[]⟩) := by simp [World.cell?, hres]
            have z4 : wr.cell? ⟨W.heap.size + 1, 4, none⟩ = some (.slice none 0 0) := by simp [World.cell?, hres]
            have z5 : wr.cell? ⟨W.heap.size + 1, 5, none⟩ = some (.slice none 0 0) := by simp [World.cell?, hres]
            have hfz : ∀ o, wr.frozen? ⟨W.heap.size + 1, o, none⟩ = false := fun o => by simp [World.frozen?, hres]
            have hrl := (Array.getElem?_eq_some_iff.1 hres).1
            have HB := Lib.hid HCL.out.mid.below
            have HRES := Lib.hid hres
            clear hbox hres HCL HIH1 HIH2
            go_wp2_with fail
            have hend : (((((((wr.setCell ⟨W.heap.size + 1, 0, none⟩ (.int .i64 x.kind)).setCell ⟨W.heap.size + 1, 1, none⟩ (.bool x.yes)).setCell ⟨W.heap.size + 1, 2, none⟩ (.int .i64 x.int)).setCell ⟨W.heap.size + 1, 3, none⟩ (.string x.text)).setCell ⟨W.heap.size + 1, 4, none⟩ (.slice sl.a xs.length sl.c)).setCell ⟨W.heap.size + 1, 5, none⟩ (.slice sm.a ms.length sm.c))).heap[W.heap.size + 1]? = some (.cells #[.int .i64 x.kind, .bool x.yes, .int .i64 x.int, .string x.text, .slice sl.a xs.length sl.c, .slice sm.a ms.length sm.c] 92 (0, 0)) := by
              rw [setCell_heap_at (setCell_heap_at (setCell_heap_at (setCell_heap_at (setCell_heap_at (setCell_heap_at HRES.out)))))]
              rfl
            refine bodyPost_ret (results_cell_row rfl _ _ (W.heap.size + 1) 92 #[.int .i64 x.kind, .bool x.yes, .int .i64 x.int, .string x.text, .slice sl.a xs.length sl.c, .slice sm.a ms.length sm.c] (0, 0) _ rfl hend Tryz.underlying92 rfl (by kernel_rfl)) rfl ?_
            have HREP2 : RepV wr (fun g => W.heap.size + 2 ≤ g) ⟨x.kind, x.yes, x.int, x.text, ⟨sl.a, xs.length, sl.c⟩, ⟨sm.a, ms.length, sm.c⟩⟩ (.mk x.kind x.yes x.int x.text L M) := by rw [← hxl, ← hxm]; exact HREP.out
            have hst := HREP2.stored (W.heap.size + 1) 0 (#[Value.int .i64 x.kind, .bool x.yes, .int .i64 x.int, .string x.text, .slice sl.a xs.length sl.c, .slice sm.a ms.length sm.c] : Array Value).toList (by omega)
            refine ⟨⟨x.kind, x.yes, x.int, x.text, ⟨sl.a, xs.length, sl.c⟩, ⟨sm.a, ms.length, sm.c⟩⟩, rfl, hst.mono (fun g _ hg => by omega), ?_, ?_⟩
            rotate_left
            · have hdp : RepN wr (W.heap.size + 2) wc.heap.size ⟨x.kind, x.yes, x.int, x.text, ⟨sl.a, xs.length, sl.c⟩, ⟨sm.a, ms.length, sm.c⟩⟩ L M ys zs := by rw [← hxl, ← hxm]; exact HDEEP.out
              have hdp2 := hdp.stored (by omega) (W.heap.size + 1) 0 (#[Value.int .i64 x.kind, .bool x.yes, .int .i64 x.int, .string x.text, .slice sl.a xs.length sl.c, .slice sm.a ms.length sm.c] : Array Value).toList (by omega)
              exact ⟨wc.heap.size, L, M, ys, zs, by omega, rfl, ⟨hdp2.rowL.mono (fun g _ hg => by omega), hdp2.rowM.mono (fun g _ hg => by omega), hdp2.apart, hdp2.lenL, hdp2.lenM, hdp2.elL, hdp2.keyM, hdp2.elM⟩⟩
            have hg := setCells_grown (W.heap.size + 1) (#[Value.int .i64 x.kind, .bool x.yes, .int .i64 x.int, .string x.text, .slice sl.a xs.length sl.c, .slice sm.a ms.length sm.c] : Array Value).toList 0 wr
            exact HB.out.grown hg HB.out.size (fun j hj => by injection hj with hj; omega)

theorem copy_ok {w : World} {P : Nat → Prop} {x : V6} {v : V} (h : RepV w P x v) : CopyOk w P x v := by
  induction h with
  | mk x L M xs ms hL hM lenL lenM elL keyM elM ih1 ih2 => exact copy_step w P x L M xs ms hL hM lenL lenM keyM ih1 ih2
theorem copy_calls (w : World) (P : Nat → Prop) (x : V6) (v : V) (h : RepV w P x v) :
    Calls Tryz.prog 61 #[.agg x.cells] w fun e w' => ∃ x' : V6, e = .returned (.agg x'.cells) ∧ RepV w' (fun g => w.heap.size ≤ g) x' v ∧ Below w.heap.size w w' ∧ Deep w' w.heap.size x' v :=
  copy_ok h w (Nat.le_refl _) (fun _ _ _ => rfl)
end Go.Proofs.YtgnoaeldmpbjmaaGreatDoor
/- value.Get: a map's value of a key, copied. -/
namespace Go.Proofs.YtgnoaeldmpbjmaaGreatDoor
open Go.RowKit

/-- slices.IndexFunc, of rows of Mb. -/
theorem index_mb (w : World) (P : Nat → Prop) (s : Sl) (l : List Mb) (f : Nat) (first captured : Array Value) (p : Mb → Bool) (h : RowB 1353245080339 w P 141 7 s (mcells l))
    (hcf : ∀ args W, Sem.run Tryz.prog (callFunc f args) W = .ok (.enter f args) W)
    (hp : ∀ W k, k ∈ l → Below w.heap.size w W → Calls Tryz.prog f (first.push (.agg k.cells) ++ captured) W fun (e : Ending) w' => e = .returned (.bool (p k)) ∧ Below W.heap.size W w') :
    Calls Tryz.prog 62 #[.slice s.a s.n s.c, .func (.func f) first captured] w fun e w' => e = .returned (.int .i64 (idxOf p l)) ∧ Below w.heap.size w w' := by
  have hn : s.n = l.length := by have := h.1; simpa using this
  have hm : l.length ≤ 1353245080339 := by have := h.2.1; simpa using this
  have HP := Lib.hid hp
  have HR := Lib.hid h
  obtain ⟨A, n, c⟩ := s
  dsimp only at hn
  subst hn
  clear hp h
  go_enter Tryz.func62, Tryz.ntmps62
  go_wp2_with fail
  go_loopw [4, 8] (fun z i wr => ∃ k : Nat, k ≤ l.length ∧ i = .int .i64 k ∧ z = .int .i64 0 ∧ (∀ j q, j < k → l[j]? = some q → p q = false) ∧ Below w.heap.size w wr) (fun _ i _ => l.length - (intOf i).toNat)
  case atStart => exact ⟨0, by omega, rfl, rfl, by omega, Below.refl _ _⟩
  case round =>
    obtain ⟨k, hk, rfl, rfl, hno, hb⟩ := hrel
    have HNO := Lib.hid hno
    have HB := Lib.hid hb
    clear hno
    by_cases hlt : k < l.length
    · have hy : l[k]? = some l[k] := List.getElem?_eq_getElem hlt
      have hC := HP.out wr l[k] (by simp) hb
      generalize l[k] = y at hy hC
      have hyc : (mcells l)[k]? = some y.cells.toList := by simp [hy]
      have hrow := HR.out.same hb.size (fun g hg _ => hb.block g hg)
      obtain ⟨r, ha⟩ : ∃ r, A = some ⟨r, 0, none⟩ := by
        rcases hrow.2.2 with ⟨hs, hn⟩ | ⟨r, h1, _⟩
        · have := congrArg List.length hn; simp at this; subst this; simp at hlt
        · exact ⟨r, h1⟩
      obtain ⟨_, hrl, hrw⟩ := hrow.at ha
      have c0 : wr.cell? ⟨r, k * 7, none⟩ = some (.string y.key) := hrw.cell (d := 0) hyc rfl
      have c1 : wr.cell? ⟨r, k * 7 + 1, none⟩ = some (.int .i64 y.v.kind) := hrw.cell (d := 1) hyc rfl
      have c2 : wr.cell? ⟨r, k * 7 + 2, none⟩ = some (.bool y.v.yes) := hrw.cell (d := 2) hyc rfl
      have c3 : wr.cell? ⟨r, k * 7 + 3, none⟩ = some (.int .i64 y.v.int) := hrw.cell (d := 3) hyc rfl
      have c4 : wr.cell? ⟨r, k * 7 + 4, none⟩ = some (.string y.v.text) := hrw.cell (d := 4) hyc rfl
      have c5 : wr.cell? ⟨r, k * 7 + 5, none⟩ = some (.slice y.v.list.a y.v.list.n y.v.list.c) := hrw.cell (d := 5) hyc rfl
      have c6 : wr.cell? ⟨r, k * 7 + 6, none⟩ = some (.slice y.v.map.a y.v.map.n y.v.map.c) := hrw.cell (d := 6) hyc rfl
      have HC := Lib.hid hC
      have HY := Lib.hid hy
      subst ha
      clear hy hyc hrow hrw hb hC
      go_wp2_with fail
      refine HC.out.mono ?_
      rintro e w1 ⟨rfl, hb1⟩
      have HB2 := Lib.hid (HB.out.trans (hb1.mono HB.out.size))
      clear hb1 HC
      by_cases hpk : p y = true
      · have HPK := Lib.hid hpk
        simp only [HPK.out]
        clear hpk
        go_wp2_with fail
        go_ret
        exact ⟨ret_int (idxOf_some p l k y HY.out HPK.out HNO.out).symm, HB2.out⟩
      · have hpk' : p y = false := by simpa using hpk
        have HPK := Lib.hid hpk'
        simp only [HPK.out]
        clear hpk hpk'
        go_wp2_with fail
        refine ⟨⟨k + 1, by omega, by go_num, rfl, ?_, HB2.out⟩, by simp [intOf]; omega⟩
        intro j q' hj hq'
        by_cases hjk : j = k
        · subst hjk
          have := HY.out
          rw [this] at hq'
          cases hq'
          exact HPK.out
        · exact HNO.out j q' (by omega) hq'
    · have hkl : k = l.length := by omega
      subst hkl
      clear hb
      go_wp2_with fail
      go_ret
      exact ⟨ret_int (idxOf_none p l (fun j q hj => HNO.out j q (by have := (List.getElem?_eq_some_iff.1 hj).1; omega) hj)).symm, HB.out⟩

section
variable {P : Program}
theorem results_row_tmp {fn : Func} {p u : Tmp} {ty : TypeId} (h : fn.results = #[.cell p ty, .tmp u]) (tmps : Array Value) (w : World) (g : Nat) (t : TypeId) (cs : Array Value) (fr : Nat × Nat) (d : TypeDesc)
    (hp : tmps.getD p undef = .pointer (some ⟨g, 0, none⟩)) (hg : w.heap[g]? = some (.cells cs t fr))
    (hu : P.underlying ty = some d) (hd : (match d with | .struct _ | .array _ _ => true | _ => false) = true) (hi : (P.info? ty).map (·.size) = some cs.size) :
    (results fn tmps).run P w = .ok (.tuple #[.agg cs, tmps.getD u undef]) w := by
  have hp' : tmps[p]?.getD undef = .pointer (some ⟨g, 0, none⟩) := by simpa using hp
  simp [results, h, hp', asAddr, run_loadVar_row w g t ty cs fr d hg hu hd hi]
end
theorem six_heap {w : World} {g E : Nat} {cs : Array Value} {a b c d e f : Value} (h : w.heap[g]? = some (.cells cs E (0, 0))) (hs : cs.size = 6) :
    ((((((w.setCell ⟨g, 0, none⟩ a).setCell ⟨g, 1, none⟩ b).setCell ⟨g, 2, none⟩ c).setCell ⟨g, 3, none⟩ d).setCell ⟨g, 4, none⟩ e).setCell ⟨g, 5, none⟩ f).heap[g]? = some (.cells #[a, b, c, d, e, f] E (0, 0)) := by
  rw [setCell_heap_at (setCell_heap_at (setCell_heap_at (setCell_heap_at (setCell_heap_at (setCell_heap_at h)))))]
  obtain ⟨l⟩ := cs
  match l, hs with
  | [_, _, _, _, _, _], _ => rfl
def keyB (key : ByteArray) (m : Mb) : Bool := m.key.toList == key.toList
theorem enter_get1 : ∀ args W, Sem.run Tryz.prog (callFunc 63 args) W = .ok (.enter 63 args) W := fun _ _ => by kernel_rfl
theorem get1_calls (w : World) (d : Nat) (key : ByteArray) (m : Mb) (hd : d < w.heap.size) (hc : w.cell? ⟨d, 0, none⟩ = some (.string key)) :
    Calls Tryz.prog 63 #[.agg m.cells, .pointer (some ⟨d, 0, none⟩)] w fun e w' => e = .returned (.bool (keyB key m)) ∧ Below w.heap.size w w' := by
  go_enter Tryz.func63, Tryz.ntmps63
  go_wp2_with fail
  go_ret
  exact ⟨rfl, Below.alloc (Below.refl _ _) (Nat.le_refl _) _⟩

/-- What a map's value of a key is. -/
def V.get : V → ByteArray → Option V
  | .mk k _ _ _ _ M, key => if k = 5 then (M.find? fun kv => kv.1.toList == key.toList).map (·.2) else none
def nilV : V := .mk 0 false 0 ⟨#[]⟩ [] []

/-- The first member of a key, and its value. -/
theorem find_of_idx {w : World} {P : Nat → Prop} {ms : List Mb} {M : List (ByteArray × V)} {key : ByteArray} (len : ms.length = M.length) (keyM : ∀ (i : Nat) (m : Mb) (kv : ByteArray × V), ms[i]? = some m → M[i]? = some kv → m.key = kv.1)
    (elM : ∀ (i : Nat) (m : Mb) (kv : ByteArray × V), ms[i]? = some m → M[i]? = some kv → RepV w P m.v kv.2) :
    (idxOf (keyB key) ms = -1 ∧ M.find? (fun kv => kv.1.toList == key.toList) = none) ∨
    ∃ (j : Nat) (m : Mb) (v : V), idxOf (keyB key) ms = j ∧ j < ms.length ∧ ms[j]? = some m ∧ (M.find? (fun kv => kv.1.toList == key.toList)).map (·.2) = some v ∧ RepV w P m.v v := by
  rcases idxOf_cases (keyB key) ms with ⟨h1, h2⟩ | ⟨j, m, h1, h2, h3, h4, h5⟩
  · left
    refine ⟨h1, ?_⟩
    rw [List.find?_eq_none]
    intro kv hkv
    obtain ⟨i, hi⟩ := List.mem_iff_getElem?.1 hkv
    have hil := (List.getElem?_eq_some_iff.1 hi).1
    have hm : ms[i]? = some (ms[i]'(by omega)) := List.getElem?_eq_getElem (by omega)
    have := h2 _ (List.mem_of_getElem? hm)
    unfold keyB at this
    rw [keyM i _ kv hm hi] at this
    simp [this]
  · right
    have hM : M[j]? = some (M[j]'(by omega)) := List.getElem?_eq_getElem (by omega)
    refine ⟨j, m, (M[j]'(by omega)).2, h1, h3, h2, ?_, elM j m _ h2 hM⟩
    have hf : M.find? (fun kv => kv.1.toList == key.toList) = some (M[j]'(by omega)) := by
      rw [List.find?_eq_some_iff_getElem]
      refine ⟨?_, j, by omega, rfl, ?_⟩
      · have := h4; unfold keyB at this; rw [keyM j m _ h2 hM] at this; exact this
      · intro i hi
        have hm : ms[i]? = some (ms[i]'(by omega)) := List.getElem?_eq_getElem (by omega)
        have := h5 (ms[i]'(by omega)) (by rw [List.mem_iff_getElem?]; exact ⟨i, by rw [List.getElem?_take]; simp [hi, hm]⟩)
        unfold keyB at this
        rw [keyM i _ (M[i]'(by omega)) hm (List.getElem?_eq_getElem (by omega))] at this
        simp [this]
    rw [hf]
    rfl

set_option maxRecDepth 100000 in
theorem vget_calls (w : World) (P : Nat → Prop) (x : V6) (v : V) (key : ByteArray) (h : RepV w P x v) :
    Calls Tryz.prog 37 #[.agg x.cells, .string key] w fun e w' => ∃ x' : V6, e = .returned (.tuple #[.agg x'.cells, .bool (v.get key).isSome]) ∧ RepV w' (fun g => w.heap.size ≤ g) x' ((v.get key).getD nilV) ∧ Below w.heap.size w w' := by
  cases h with
  | mk x L M xs ms hL hM lenL lenM elL keyM elM =>
  obtain ⟨W2, hW2⟩ : ∃ W2, W2 = ((w.alloc (.cells x.cells 92)).alloc (.cells #[.string key] 9)).alloc (.cells #[.int .i64 0, .bool false, .int .i64 0, .string ⟨#[]⟩, .slice none 0 0, .slice none 0 0] 92) := ⟨_, rfl⟩
  have hb2 : Below w.heap.size w W2 := by rw [hW2]; exact (((Below.refl _ _).alloc (Nat.le_refl _) _).alloc (by simp) _).alloc (by simp; omega) _
  have hk2 : W2.cell? ⟨w.heap.size + 1, 0, none⟩ = some (.string key) := by rw [hW2]; exact (cell_old _ _ _ (by simp)).trans (cell_new _ _ _ _ _ _ (by simp))
  have hs2 : W2.heap.size = w.heap.size + 3 := by rw [hW2]; simp
  have HI := Lib.hid (index_mb W2 P x.map ms 63 #[] #[.pointer (some ⟨w.heap.size + 1, 0, none⟩)] (keyB key) (hM.same hb2.size (fun g hg _ => hb2.block g hg)) enter_get1 (fun W k _ hb => by
    have := get1_calls W (w.heap.size + 1) key k (by have := hb.size; omega) ((hb.cell (p := ⟨w.heap.size + 1, 0, none⟩) (by show w.heap.size + 1 < _; omega)).trans hk2)
    simpa using this))
  have hx2 : W2.heap[w.heap.size]? = some (.cells x.cells 92 (0, 0)) := by rw [hW2]; exact (Below.heap_alloc _ _ _ (by simp; omega)).trans ((Below.heap_alloc _ _ _ (by simp)).trans (heap_new _ _))
  have hr2 : W2.heap[w.heap.size + 2]? = some (.cells #[.int .i64 0, .bool false, .int .i64 0, .string ⟨#[]⟩, .slice none 0 0, .slice none 0 0] 92 (0, 0)) := by
    rw [hW2]
    have := heap_new ((w.alloc (.cells x.cells 92)).alloc (.cells #[.string key] 9)) (.cells #[.int .i64 0, .bool false, .int .i64 0, .string ⟨#[]⟩, .slice none 0 0, .slice none 0 0] 92 (0, 0))
    rw [show ((w.alloc (.cells x.cells 92)).alloc (.cells #[.string key] 9)).heap.size = w.heap.size + 2 by simp] at this
    exact this
  have HW2 := Lib.hid hW2
  have HM := Lib.hid hM
  have HB2 := Lib.hid hb2
  have HX2 := Lib.hid hx2
  have HR2 := Lib.hid hr2
  have HF := Lib.hid (find_of_idx (key := key) lenM keyM elM)
  have HG := Lib.hid (show (V.mk x.kind x.yes x.int x.text L M).get key = if x.kind = 5 then (M.find? fun kv => kv.1.toList == key.toList).map (·.2) else none from rfl)
  clear hW2 hM hb2 hx2 hr2 hk2 lenL lenM elL keyM elM hL
  go_enter Tryz.func37, Tryz.ntmps37
  go_wp2_with fail
  rw [← HW2.out]
  refine HI.out.mono ?_
  rintro e w3 ⟨rfl, hb3⟩
  have hx3 := (hb3.block w.heap.size (by omega)).trans HX2.out
  have hr3 := (hb3.block (w.heap.size + 2) (by omega)).trans HR2.out
  have hs3 := hb3.size
  have HB3 := Lib.hid (HB2.out.trans (hb3.mono HB2.out.size))
  have hrl := (Array.getElem?_eq_some_iff.1 hr3).1
  have k0 : w3.cell? ⟨w.heap.size, 0, none⟩ = some (.int .i64 x.kind) := by simp [World.cell?, hx3]
  have k5 : w3.cell? ⟨w.heap.size, 5, none⟩ = some (.slice x.map.a x.map.n x.map.c) := by simp [World.cell?, hx3]
  have z0 : w3.cell? ⟨w.heap.size + 2, 0, none⟩ = some (.int .i64 0) := by simp [World.cell?, hr3]
  have z1 : w3.cell? ⟨w.heap.size + 2, 1, none⟩ = some (.bool false) := by simp [World.cell?, hr3]
  have z2 : w3.cell? ⟨w.heap.size + 2, 2, none⟩ = some (.int .i64 0) := by simp [World.cell?, hr3]
  have z3 : w3.cell? ⟨w.heap.size + 2, 3, none⟩ = some (.string ⟨#[]⟩) := by simp [World.cell?, hr3]
  have z4 : w3.cell? ⟨w.heap.size + 2, 4, none⟩ = some (.slice none 0 0) := by simp [World.cell?, hr3]
  have z5 : w3.cell? ⟨w.heap.size + 2, 5, none⟩ = some (.slice none 0 0) := by simp [World.cell?, hr3]
  have hfz : ∀ o, w3.frozen? ⟨w.heap.size + 2, o, none⟩ = false := fun o => by simp [World.frozen?, hr3]
  have HR3 := Lib.hid hr3
  clear HI HX2 HR2 HW2 hb3 hx3 hr3
  have hcase : ((x.kind = 5 ∧ ∃ (j : Nat) (m : Mb) (v : V), idxOf (keyB key) ms = j ∧ j < ms.length ∧ ms[j]? = some m ∧ (M.find? (fun kv => kv.1.toList == key.toList)).map (·.2) = some v ∧ RepV w P m.v v)) ∨
      ((x.kind = 5 ∧ idxOf (keyB key) ms = -1) ∧ (V.mk x.kind x.yes x.int x.text L M).get key = none) ∨ (x.kind ≠ 5 ∧ (V.mk x.kind x.yes x.int x.text L M).get key = none) := by
    by_cases h5 : x.kind = 5
    · rcases HF.out with ⟨h1, h2⟩ | h
      · right; left; refine ⟨⟨h5, h1⟩, ?_⟩; rw [HG.out, if_pos h5, h2]; rfl
      · exact .inl ⟨h5, h⟩
    · right; right; exact ⟨h5, by rw [HG.out, if_neg h5]⟩
  rcases hcase with ⟨h5, j, m, v, hj, hjl, hmj, hfv, hrep⟩ | ⟨⟨h5, hj⟩, hg⟩ | ⟨h5, hg⟩
  · have HGN := Lib.hid (show (V.mk x.kind x.yes x.int x.text L M).get key = some v by rw [HG.out, if_pos h5, hfv])
    have hyc : (mcells ms)[j]? = some m.cells.toList := by simp [hmj]
    have hrow := HM.out.same (w' := w3) HB3.out.size (fun g hg _ => HB3.out.block g hg)
    have hn : x.map.n = ms.length := by have := hrow.1; simpa using this
    have hm6 : ms.length ≤ 1353245080339 := by have := hrow.2.1; simpa using this
    obtain ⟨r, ha⟩ : ∃ r, x.map.a = some ⟨r, 0, none⟩ := by
      rcases hrow.2.2 with ⟨hs, hn⟩ | ⟨r, h1, _⟩
      · have := congrArg List.length hn; simp at this; subst this; simp at hjl
      · exact ⟨r, h1⟩
    obtain ⟨_, hrl2, hrw⟩ := hrow.at ha
    have c1 : w3.cell? ⟨r, j * 7 + 1, none⟩ = some (.int .i64 m.v.kind) := hrw.cell (d := 1) hyc rfl
    have c2 : w3.cell? ⟨r, j * 7 + 2, none⟩ = some (.bool m.v.yes) := hrw.cell (d := 2) hyc rfl
    have c3 : w3.cell? ⟨r, j * 7 + 3, none⟩ = some (.int .i64 m.v.int) := hrw.cell (d := 3) hyc rfl
    have c4 : w3.cell? ⟨r, j * 7 + 4, none⟩ = some (.string m.v.text) := hrw.cell (d := 4) hyc rfl
    have c5 : w3.cell? ⟨r, j * 7 + 5, none⟩ = some (.slice m.v.list.a m.v.list.n m.v.list.c) := hrw.cell (d := 5) hyc rfl
    have c6 : w3.cell? ⟨r, j * 7 + 6, none⟩ = some (.slice m.v.map.a m.v.map.n m.v.map.c) := hrw.cell (d := 6) hyc rfl
    have HCO := Lib.hid (copy_calls w3 P m.v v (hrep.same HB3.out.size (fun g hg _ => HB3.out.block g hg)))
    rw [hj]
    rw [ha, hn] at k5 ⊢
    clear hyc hrow hrw hfv hrep hmj HF HG hj HM
    go_wp2_with fail
    refine HCO.out.mono ?_
    rintro e w4 ⟨x', rfl, hrep', hb4, _⟩
    have hr4 := (hb4.block (w.heap.size + 2) (by omega)).trans HR3.out
    have z0 : w4.cell? ⟨w.heap.size + 2, 0, none⟩ = some (.int .i64 0) := by simp [World.cell?, hr4]
    have z1 : w4.cell? ⟨w.heap.size + 2, 1, none⟩ = some (.bool false) := by simp [World.cell?, hr4]
    have z2 : w4.cell? ⟨w.heap.size + 2, 2, none⟩ = some (.int .i64 0) := by simp [World.cell?, hr4]
    have z3 : w4.cell? ⟨w.heap.size + 2, 3, none⟩ = some (.string ⟨#[]⟩) := by simp [World.cell?, hr4]
    have z4 : w4.cell? ⟨w.heap.size + 2, 4, none⟩ = some (.slice none 0 0) := by simp [World.cell?, hr4]
    have z5 : w4.cell? ⟨w.heap.size + 2, 5, none⟩ = some (.slice none 0 0) := by simp [World.cell?, hr4]
    have hfz : ∀ o, w4.frozen? ⟨w.heap.size + 2, o, none⟩ = false := fun o => by simp [World.frozen?, hr4]
    have HREP := Lib.hid hrep'
    have HB4 := Lib.hid (HB3.out.trans (hb4.mono HB3.out.size))
    have HR4 := Lib.hid hr4
    clear hrep' hb4 hr4 HCO c1 c2 c3 c4 c5 c6
    go_wp2_with fail
    refine bodyPost_ret (results_row_tmp rfl _ _ (w.heap.size + 2) 92 _ (0, 0) _ rfl (six_heap HR4.out rfl) Tryz.underlying92 rfl (by kernel_rfl)) rfl ?_
    refine ⟨x', by rw [HGN.out]; rfl, ?_, ?_⟩
    · rw [HGN.out]
      exact ((HREP.out.mono (fun g _ hg => by show w.heap.size + 3 ≤ g; omega)).stored (w.heap.size + 2) 0 x'.cells.toList (by omega)).mono (fun g _ hg => by omega)
    · exact HB4.out.grown (setCells_grown (w.heap.size + 2) x'.cells.toList 0 w4) HB4.out.size (fun j hj => by injection hj with hj; omega)
  · have HGN := Lib.hid hg
    rw [hj]
    clear hg hj
    go_wp2_with fail
    refine bodyPost_ret (results_row_tmp rfl _ _ (w.heap.size + 2) 92 _ (0, 0) _ rfl (six_heap HR3.out rfl) Tryz.underlying92 rfl (by kernel_rfl)) rfl ?_
    refine ⟨⟨0, false, 0, ⟨#[]⟩, ⟨none, 0, 0⟩, ⟨none, 0, 0⟩⟩, by rw [HGN.out]; rfl, by rw [HGN.out]; exact RepV.leaf _ _ _ _ _ _, ?_⟩
    exact HB3.out.grown (setCells_grown (w.heap.size + 2) [.int .i64 0, .bool false, .int .i64 0, .string ⟨#[]⟩, .slice none 0 0, .slice none 0 0] 0 w3) HB3.out.size (fun j hj => by injection hj with hj; omega)
  · have HGN := Lib.hid hg
    clear hg
    go_wp2_with fail
    refine bodyPost_ret (results_row_tmp rfl _ _ (w.heap.size + 2) 92 _ (0, 0) _ rfl (six_heap HR3.out rfl) Tryz.underlying92 rfl (by kernel_rfl)) rfl ?_
    refine ⟨⟨0, false, 0, ⟨#[]⟩, ⟨none, 0, 0⟩, ⟨none, 0, 0⟩⟩, by rw [HGN.out]; rfl, by rw [HGN.out]; exact RepV.leaf _ _ _ _ _ _, ?_⟩
    exact HB3.out.grown (setCells_grown (w.heap.size + 2) [.int .i64 0, .bool false, .int .i64 0, .string ⟨#[]⟩, .slice none 0 0, .slice none 0 0] 0 w3) HB3.out.size (fun j hj => by injection hj with hj; omega)
end Go.Proofs.YtgnoaeldmpbjmaaGreatDoor
