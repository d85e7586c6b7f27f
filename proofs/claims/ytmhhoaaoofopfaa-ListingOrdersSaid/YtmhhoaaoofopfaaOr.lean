/- ListingOrders, walked. -/
import Derived.Test.YtmhhoaaoofopfaaOs
import Derived.Deep.DeepCutAuto
import Derived.Laws.Cover1
set_option linter.unusedVariables false
set_option linter.unusedSimpArgs false
namespace Go.Proofs.Ytmhhoaaoofopfaa
open Go.RowKit

/-- Each room once; how often it was met. -/
structure Ded (O : List Sm) (km : List (ByteArray × Value)) (k : Nat) : Prop where
  nd : (O.map (·.room)).Nodup
  sz : ∀ x ∈ O, x.room.size ≤ 150
  mp : ∀ r, (getS km r = none ∧ ∀ x ∈ O, x.room ≠ r) ∨ (∃ c : Nat, 0 < c ∧ c ≤ k ∧ getS km r = some (.int .i64 c) ∧ ∃ x ∈ O, x.room = r)
  ln : km.length ≤ k
  lo : O.length ≤ k
theorem Ded.nil : Ded [] [] 0 := ⟨List.nodup_nil, by simp, fun r => .inl ⟨rfl, by simp⟩, Nat.le_refl _, Nat.le_refl _⟩
theorem Ded.new {O : List Sm} {km : List (ByteArray × Value)} {k : Nat} (h : Ded O km k) {y : Sm} (hy : y.room.size ≤ 150) (hn : getS km y.room = none) : Ded (O ++ [y]) (putS y.room (.int .i64 1) km) (k + 1) := by
  have ho : ∀ x ∈ O, x.room ≠ y.room := by
    rcases h.mp y.room with ⟨_, h2⟩ | ⟨c, _, _, h2, _⟩
    · exact h2
    · rw [h2] at hn; cases hn
  refine ⟨?_, fun x hx => ?_, fun r => ?_, by have := len_put y.room (.int .i64 1) km; have := h.ln; omega, by have := h.lo; simp; omega⟩
  · rw [List.map_append, List.nodup_append]
    refine ⟨h.nd, by simp, fun a ha b hb => ?_⟩
    obtain ⟨x, hx, rfl⟩ := List.mem_map.1 ha
    obtain rfl := List.mem_singleton.1 hb
    exact ho x hx
  · rcases List.mem_append.1 hx with hx | hx
    · exact h.sz x hx
    · obtain rfl := List.mem_singleton.1 hx; exact hy
  · rw [getS_put]
    cases hs : (y.room.data.toList == r.data.toList) with
    | true =>
      rw [if_pos rfl]
      exact .inr ⟨1, by omega, by omega, rfl, y, by simp, sameR_iff.1 hs⟩
    | false =>
      rw [if_neg (by simp)]
      have hne : y.room ≠ r := fun e => by
        have h1 : sameR y.room r = true := sameR_iff.2 e
        rw [show sameR y.room r = false from hs] at h1
        cases h1
      rcases h.mp r with ⟨h1, h2⟩ | ⟨c, h1, h2, h3, x, hx, h4⟩
      · refine .inl ⟨h1, fun x hx => ?_⟩
        rcases List.mem_append.1 hx with hx | hx
        · exact h2 x hx
        · obtain rfl := List.mem_singleton.1 hx; exact hne
      · exact .inr ⟨c, h1, by omega, h3, x, List.mem_append_left _ hx, h4⟩
theorem Ded.old {O : List Sm} {km : List (ByteArray × Value)} {k : Nat} (h : Ded O km k) {y : Sm} {c : Nat} (hc : c ≤ k) (hn : getS km y.room = some (.int .i64 c)) : Ded O (putS y.room (.int .i64 ((c : Int) + 1)) km) (k + 1) := by
  refine ⟨h.nd, h.sz, fun r => ?_, by have := len_put y.room (.int .i64 ((c : Int) + 1)) km; have := h.ln; omega, by have := h.lo; omega⟩
  rw [getS_put]
  cases hs : (y.room.data.toList == r.data.toList) with
  | true =>
    rw [if_pos rfl]
    obtain rfl : y.room = r := sameR_iff.1 hs
    rcases h.mp y.room with ⟨h1, _⟩ | ⟨c', _, _, _, hx⟩
    · rw [h1] at hn; cases hn
    · exact .inr ⟨c + 1, by omega, by omega, rfl, hx⟩
  | false =>
    rw [if_neg (by simp)]
    rcases h.mp r with h1 | ⟨c', h1, h2, h3, hx⟩
    · exact .inl h1
    · exact .inr ⟨c', h1, by omega, h3, hx⟩
theorem sizeE (x : Sm) : (Try.prog.info? 32).map (·.size) = some x.cells.size := show _ = some 10 from by kernel_rfl
theorem infoE : (Try.prog.info? 32).map (fun i => (i.zero, i.size, i.bytes)) = some (some (.agg zSm.cells), 10, 128) := by kernel_rfl
theorem srcE {w : World} {E gv : Nat} {x : Sm} (h : w.heap[gv]? = some (.cells x.cells E (0, 0))) : Src w 10 (some ⟨gv, 0, none⟩) 1 1 [x.cells.toList] := by
  refine ⟨rfl, by simp, fun u hu => ?_, .inr ⟨_, rfl, fun j u hj => ?_⟩⟩
  · have hu2 : u ∈ x.cells.toList := by simpa using hu
    exact Array.all_eq_true_iff_forall_mem.1 (allSm x) u (Array.mem_toList_iff.1 hu2)
  · exact World.news_of_block (B := gv) (cs := x.cells) (t := E) (fr := (0, 0)) h j u (by rw [List.flatten_cons, List.flatten_nil, List.append_nil] at hj; exact hj)
theorem smc_snoc (l : List Sm) (y : Sm) : (smc (l ++ [y])).flatten = (smc l).flatten ++ y.cells.toList := by simp [smc]
/-- What a listing holds behind some rooms. -/
structure LsOk (kn sh : List (ByteArray × Value)) (od L : List Sm) : Prop where
  k : KnOk kn L
  s : ShOk sh L
  o : OdOk od L
  ls : sh.length ≤ L.length
  lk : kn.length ≤ L.length
theorem LsOk.nil : LsOk [] [] [] [] := ⟨fun r => rfl, fun r => rfl, List.Perm.refl _, Nat.le_refl _, Nat.le_refl _⟩
theorem LsOk.lo {kn sh : List (ByteArray × Value)} {od L : List Sm} (h : LsOk kn sh od L) : od.length ≤ L.length := by
  have h1 := h.o.length_eq
  have h2 := List.length_filter_le validS L
  omega
theorem LsOk.good {kn sh : List (ByteArray × Value)} {od L : List Sm} (h : LsOk kn sh od L) {x : Sm} (hx : ∀ y ∈ L, y.room ≠ x.room) (hv : validS x = true) : LsOk (putS x.room (.agg x.cells) kn) (putS x.room (.int .i64 1) sh) (insS_ (posS x od) x od) (L ++ [x]) :=
  ⟨kn_step h.k hx, sh_valid h.s hv, od_valid h.o hv, by have := len_put x.room (.int .i64 1) sh; have := h.ls; simp; omega, by have := len_put x.room (.agg x.cells) kn; have := h.lk; simp; omega⟩
theorem LsOk.bad {kn sh : List (ByteArray × Value)} {od L : List Sm} (h : LsOk kn sh od L) {x : Sm} (hx : ∀ y ∈ L, y.room ≠ x.room) (hv : validS x = false) : LsOk (putS x.room (.agg x.cells) kn) sh od (L ++ [x]) :=
  ⟨kn_step h.k hx, sh_bad h.s hv, od_bad h.o hv, by have := h.ls; simp; omega, by have := len_put x.room (.agg x.cells) kn; have := h.lk; simp; omega⟩
theorem nd_take {O : List Sm} (hn : (O.map (·.room)).Nodup) {k : Nat} {y : Sm} (hy : O[k]? = some y) : ∀ x ∈ O.take k, x.room ≠ y.room := by
  intro x hx e
  obtain ⟨i, hi⟩ := List.mem_iff_getElem?.1 hx
  rw [List.getElem?_take] at hi
  split at hi
  · next hik =>
    obtain ⟨h1, h2⟩ := List.getElem?_eq_some_iff.1 hi
    obtain ⟨h3, h4⟩ := List.getElem?_eq_some_iff.1 hy
    have := List.pairwise_iff_getElem.1 hn i k (by simpa using h1) (by simpa using h3) hik
    simp only [List.getElem_map] at this
    rw [h2, h4] at this
    exact this e
  · cases hi
theorem own_form {w : World} {base E sz n : Nat} {v : Value} {xs : List Value} (h : w.ownsRow base E sz v n xs) : ∃ A cp, v = .slice A n cp := by
  rcases h.2 with ⟨rfl, rfl⟩ | ⟨g, cap, cur, rfl, _⟩
  · exact ⟨_, _, rfl⟩
  · exact ⟨_, _, rfl⟩
/-- A listing beside other things: its own blocks are there already. -/
theorem LsAt.tight {w : World} {P : Nat → Prop} {g bk bs : Nat} {v : Value} {most : Int} {kn sh : List (ByteArray × Value)} {od : List Sm} (h : LsAt w P g bk bs v most kn sh od) : LsAt w (fun i => P i ∧ i < w.heap.size) g bk bs v most kn sh od := h.mono (fun i hi hp => ⟨hp, hi⟩)
theorem Holds.cellm {w : World} {r k : Nat} {cs : Array Value} (h : Holds w ⟨r, k, none⟩ cs) {j : Nat} {v : Value} (hj : cs[j]? = some v) : w.cell? ⟨r, k + j, none⟩ = some v := by
  have e : (⟨r, k, none⟩ : Addr).add j = ⟨r, k + j, none⟩ := by unfold Addr.add; split <;> simp_all
  rw [← e]
  exact h j v hj
theorem row_holds {w : World} {E r cap k : Nat} {l : List Sm} {y : Sm} (h : Rw w E r cap 10 (smc l)) (hy : l[k]? = some y) : Holds w ⟨r, k * 10, none⟩ y.cells := by
  intro j v hj
  have e : (⟨r, k * 10, none⟩ : Addr).add j = ⟨r, k * 10 + j, none⟩ := by unfold Addr.add; split <;> simp_all
  rw [e]
  exact h.cell (i := k) (d := j) (show (smc l)[k]? = some y.cells.toList by simp [hy]) (by simpa using hj)
set_option maxRecDepth 100000 in
set_option maxHeartbeats 16000000 in
theorem orders_calls (w : World) (a a2 : Option Addr) (c c2 : Nat) (l : List Sm) (ks : List Nat) (hin : InS w a l) (hit : InT w a2 ks) (hm : Mx w) :
    Calls Try.prog 3 #[.slice a l.length c, .slice a2 ks.length c2] w fun e w' => e = .returned (.bool true) ∧ Below w.heap.size w w' := by
  have HIN := Lib.hid hin
  have HIT := Lib.hid hit
  have HM := Lib.hid hm
  have HP := Lib.hid hm.pos
  have hmm := @run_makeMap Try.prog
  obtain ⟨i0, hi0, hz0, hz1, hz2⟩ := info_parts infoE
  have HI := Lib.hid hi0
  have HZ0 := Lib.hid hz0
  have HZ1 := Lib.hid hz1
  have HZ2 := Lib.hid hz2
  clear hin hit hm hi0 hz0 hz1 hz2
  go_enter Try.func3, Try.ntmps3
  go_wp2_with fail
  refine (awake_calls w HM.out).mono ?_
  rintro e w1 ⟨rfl, hb⟩
  have B1 := Lib.hid hb
  clear hb
  by_cases hl40 : 40 < l.length
  · have hd1 : decide ((40 : Int) < (l.length : Int)) = true := by simp; omega
    go_wp2_with fail
    refine (awake_calls w1 (HM.out.below B1.out HP.out)).mono ?_
    rintro e w2 ⟨rfl, hb⟩
    have B2 := Lib.hid (B1.out.trans (hb.mono B1.out.size))
    clear hb
    go_wp2_with fail
    go_ret
    exact ⟨rfl, B2.out⟩
  have hd1 : decide ((40 : Int) < (l.length : Int)) = false := by simp; omega
  by_cases hk60 : 60 < ks.length
  · have hd2 : decide ((60 : Int) < (ks.length : Int)) = true := by simp; omega
    go_wp2_with fail
    refine (awake_calls w1 (HM.out.below B1.out HP.out)).mono ?_
    rintro e w2 ⟨rfl, hb⟩
    have B2 := Lib.hid (B1.out.trans (hb.mono B1.out.size))
    clear hb
    go_wp2_with fail
    go_ret
    exact ⟨rfl, B2.out⟩
  have hd2 : decide ((60 : Int) < (ks.length : Int)) = false := by simp; omega
  go_wp2_with fail
  refine (new_calls w1 200 (by omega) (by omega)).mono ?_
  rintro e w2 ⟨gx, bkx, bsx, rfl, hlx, hb⟩
  have B2 := Lib.hid (B1.out.trans (hb.mono B1.out.size))
  have HX2 := Lib.hid (hlx.mono (Q := fun i => w1.heap.size ≤ i ∧ i < w2.heap.size) (fun i hi hp => ⟨hp, hi⟩))
  clear hlx hb
  go_wp2_with fail
  refine (new_calls w2 200 (by omega) (by omega)).mono ?_
  rintro e w3 ⟨gy, bky, bsy, rfl, hly, hb⟩
  have B3 := Lib.hid (B2.out.trans (hb.mono B2.out.size))
  have HX3 := Lib.hid (HX2.out.below hb)
  have HY3 := Lib.hid (hly.mono (Q := fun i => w2.heap.size ≤ i ∧ i < w3.heap.size) (fun i hi hp => ⟨hp, hi⟩))
  have h12 : w1.heap.size ≤ w2.heap.size := Nat.le_of_lt (Nat.lt_of_le_of_lt HX2.out.pg.1 HX2.out.pg.2)
  have h23 : w2.heap.size ≤ w3.heap.size := hb.size
  clear hly hb hd1 hd2
  go_upto_region 9 with fail
  obtain ⟨w4, hw4⟩ : ∃ w4 : World, w4 = w3.alloc (.map #[] 0) := ⟨_, rfl⟩
  rw [← hw4]
  have hb4 : Below w3.heap.size w3 w4 := by rw [hw4]; exact (Below.refl _ _).alloc (Nat.le_refl _) _
  have HM4 := Lib.hid (show MapS w4 Try.prog 9 w3.heap.size [] by rw [hw4]; exact MapS.made w3 Try.prog 9)
  have hs4 : w4.heap.size = w3.heap.size + 1 := by rw [hw4]; simp
  have B4 := Lib.hid (B3.out.trans (hb4.mono B3.out.size))
  have HX4 := Lib.hid (HX3.out.below hb4)
  have HY4 := Lib.hid (HY3.out.below hb4)
  obtain ⟨bm, hbm⟩ : ∃ bm, bm = w3.heap.size := ⟨_, rfl⟩
  rw [← hbm] at HM4 ⊢
  have HBM := Lib.hid (show bm < w4.heap.size by omega)
  have H34 := Lib.hid (show w3.heap.size ≤ w4.heap.size by omega)
  have H3M := Lib.hid (show w3.heap.size ≤ bm by omega)
  clear hw4 hb4 hbm hs4
  go_wp2_with fail
  go_loopw [10, 62] (fun c10 c62 wr => ∃ (k : Nat) (O : List Sm) (km : List (ByteArray × Value)), k ≤ l.length ∧ c62 = .int .i64 k ∧ Ded O km k ∧ wr.ownsRow w4.heap.size 32 10 c10 O.length (smc O).flatten ∧ MapS wr Try.prog 9 bm km ∧ Fr (fun i => i = bm) w4 wr) (fun _ c62 _ => l.length - (intOf c62).toNat)
  case atStart => exact ⟨0, [], [], by omega, rfl, Ded.nil, ⟨rfl, .inl ⟨rfl, rfl⟩⟩, HM4.out, Fr.refl _ _⟩
  case round =>
    obtain ⟨k, O, km, hk, rfl, hded, hown, hmap, hfr⟩ := hrel
    have HDED := Lib.hid hded
    have HOWN := Lib.hid hown
    have HMAP := Lib.hid hmap
    have HFR := Lib.hid hfr
    have hkl := hded.ln
    have hol := hded.lo
    have hfs := hfr.size
    have BR := Lib.hid (B4.out.trans (hfr.to_below B4.out.size (fun i hi e => by have := B3.out.size; have := H3M.out; omega) : Below w.heap.size w4 wr))
    clear hded hmap hfr
    by_cases hlt : k < l.length
    · obtain ⟨y, hy⟩ : ∃ y, l[k]? = some y := ⟨_, List.getElem?_eq_getElem hlt⟩
      obtain ⟨ad, rfl, hadl, hcell⟩ := (HIN.out.below BR.out rfl).2 (by omega)
      have HLD := Lib.hid (hcell k y hy)
      clear hcell
      by_cases h150 : 150 < y.room.size
      · have hd : decide ((150 : Int) < (y.room.size : Int)) = true := by simp; omega
        clear hown
        go_wp2_with (refine wpList_load_at rfl _ _ rfl (ad.add (k * 10)) rfl y.cells _ HLD.out Try.underlying32 rfl (sizeE y) ?_)
        go_ret
        exact ⟨rfl, BR.out.alloc BR.out.size _⟩
      have hd : decide ((150 : Int) < (y.room.size : Int)) = false := by simp; omega
      have hrm : y.room.size ≤ maxLen := by unfold maxLen; omega
      go_upto_region 14 with (refine wpList_load_at rfl _ _ rfl (ad.add (k * 10)) rfl y.cells _ HLD.out Try.underlying32 rfl (sizeE y) ?_)
      obtain ⟨wa, hwa⟩ : ∃ wa : World, wa = wr.alloc (.cells y.cells 32) := ⟨_, rfl⟩
      rw [← hwa]
      have hba : Below wr.heap.size wr wa := by rw [hwa]; exact (Below.refl _ _).alloc (Nat.le_refl _) _
      have hya : wa.heap[wr.heap.size]? = some (.cells y.cells 32 (0, 0)) := by rw [hwa]; exact heap_new_at _ _ _ rfl
      have HBA := Lib.hid hba
      have HYA := Lib.hid hya
      have y0 : wa.cell? ⟨wr.heap.size, 0, none⟩ = some (.string y.room) := cell_at (j := 0) hya rfl
      have HMA := Lib.hid (HMAP.out.below hba HMAP.out.lt)
      have HOA := Lib.hid (own_below HOWN.out hba)
      have hbml := HMAP.out.lt
      have hob : ∀ g, u10.ownBlock = some g → bm < g := fun g e => by
        rcases HOWN.out.2 with ⟨h1, _⟩ | ⟨g', cap, cur, h1, h2, _⟩
        · rw [h1] at e; cases e
        · rw [h1] at e; have e2 : g' = g := Option.some.inj e; have := HBM.out; omega
      have HOB := Lib.hid hob
      have HOL := Lib.hid (show ∀ g, u10.ownBlock = some g → w4.heap.size ≤ g ∧ g < wr.heap.size from fun g e => by
        rcases HOWN.out.2 with ⟨h1, _⟩ | ⟨g', cap, cur, h1, h2, h3, _⟩
        · rw [h1] at e; cases e
        · rw [h1] at e; have e2 : g' = g := Option.some.inj e; rw [← e2]; exact ⟨h2, blk_lt h3⟩)
      have HSA := Lib.hid (Nat.le_trans hfs hba.size)
      clear hwa hba hya hob hown
      rcases HDED.out.mp y.room with ⟨hn, _⟩ | ⟨cn, hc1, hc2, hn, _⟩
      · have HV := Lib.hid (show (getS km y.room).getD (.int .i64 0) = .int .i64 0 by rw [hn]; rfl)
        have HDN := Lib.hid (HDED.out.new (by omega) hn)
        clear hn
        go_upto_region 15 with (at_lookup; refine lookupS _ rfl _ _ 30 rfl 9 3 Try.underlying9 Try.underlying30 (.int .i64 0) (by kernel_rfl) bm km rfl HMA.out y.room rfl hrm _ HV.out ?_)
        go_upto_region 16 with (first
          | (refine wpList_load_at rfl _ _ rfl ⟨wr.heap.size, 0, none⟩ rfl y.cells _ (Holds.of_block HYA.out) Try.underlying32 rfl (sizeE y) ?_)
          | (at_builtin; refine wpList_append_src _ rfl _ _ 22 rfl w4.heap.size 32 i0 _ 10 128 Try.underlying22 HI.out HZ0.out HZ1.out HZ2.out rfl (by decide) u10 O.length (smc O).flatten rfl (own_below HOA.out ((Below.refl _ _).alloc (Nat.le_refl _) _)) (some ⟨wa.heap.size, 0, none⟩) 1 1 [y.cells.toList] rfl ?c1 ?c3 ?c4 ?c5 ?_))
        case c1 => exact srcE (heap_new_at _ _ _ rfl)
        case c3 => unfold maxLen; omega
        case c4 => omega
        case c5 => have := HSA.out; simp; omega
        intro a5 c5 w5 ho5 hg5 hv5
        obtain ⟨wb, hwb⟩ : ∃ wb : World, wb = wa.alloc (.cells y.cells 32) := ⟨_, rfl⟩
        have hg5' : wb.grownBy w5 u10.ownBlock := by rw [hwb]; exact hg5
        have hbb : Below wa.heap.size wa wb := by rw [hwb]; exact (Below.refl _ _).alloc (Nat.le_refl _) _
        have hwbs : wb.heap.size = wa.heap.size + 1 := by rw [hwb]; simp
        have hmap5 : MapS w5 Try.prog 9 bm km := (HMA.out.below hbb HMA.out.lt).same (hg5'.block bm (by have := HMA.out.lt; omega) (fun e => by have := HOB.out _ e.symm; omega))
        have hy5 : w5.heap[wr.heap.size]? = some (.cells y.cells 32 (0, 0)) := (hg5'.block _ (by have := blk_lt HYA.out; omega) (fun e => by have := (HOL.out _ e.symm).2; omega)).trans ((hbb.block _ (blk_lt HYA.out)).trans HYA.out)
        have y5 : w5.cell? ⟨wr.heap.size, 0, none⟩ = some (.string y.room) := cell_at (j := 0) hy5 rfl
        have hfr5 : Fr (fun i => i = bm) w4 w5 := ((HFR.out.trans (Fr.of_below HBA.out)).trans (Fr.of_below hbb)).then_ (Fr.of_grown (S := fun i => some i = u10.ownBlock) hg5' (fun r e => e.symm)) (fun i hi e => by have := (HOL.out _ e.symm).1; omega)
        have hnb : (Value.slice a5 (O.length + 1) c5).ownBlock ≠ some bm := fun e => by
          rcases hv5 with h1 | h1
          · rw [h1] at e; have := HOB.out _ e; omega
          · rw [h1] at e; have := Option.some.inj e; have := HMA.out.lt; omega
        have HM5 := Lib.hid hmap5
        have HF5 := Lib.hid hfr5
        have HO5 := Lib.hid ho5
        have HNB := Lib.hid hnb
        clear ho5 hg5 hv5 hwb hg5' hbb hwbs hmap5 hy5 hfr5 hnb y0
        go_wp2_with (first
          | (at_lookup; refine lookupS _ rfl _ _ 30 rfl 9 3 Try.underlying9 Try.underlying30 (.int .i64 0) (by kernel_rfl) bm km rfl HM5.out y.room rfl hrm _ HV.out ?_)
          | (at_mapUpdate; refine updateS _ rfl _ _ _ 30 rfl 9 3 Try.underlying9 Try.underlying30 bm km rfl HM5.out (by unfold maxLen; omega) y.room rfl hrm _ rfl ?_))
        intro w6 hmap6 hturn6
        have HG6 := Lib.hid (World.mapTurned.grown hturn6)
        have HM6 := Lib.hid hmap6
        clear hmap6 hturn6
        go_wp2_with fail
        refine ⟨⟨k + 1, O ++ [y], putS y.room (.int .i64 1) km, by omega, by go_num, HDN.out, ?_, HM6.out, HF5.out.trans (Fr.of_grown HG6.out (fun r e => (Option.some.inj e).symm))⟩, by simp [intOf]; omega⟩
        have e1 : (O ++ [y]).length = O.length + 1 := by simp
        rw [e1, smc_snoc]
        exact own_same HO5.out (fun g hg e => HG6.out.block g hg (fun e2 => HNB.out (by rw [e, e2])))
      · have HV := Lib.hid (show (getS km y.room).getD (.int .i64 0) = .int .i64 cn by rw [hn]; rfl)
        have HDN := Lib.hid (HDED.out.old hc2 hn)
        have hcz : ((cn : Int) == 0) = false := by simp; omega
        clear hn
        go_upto_region 16 with (at_lookup; refine lookupS _ rfl _ _ 30 rfl 9 3 Try.underlying9 Try.underlying30 (.int .i64 0) (by kernel_rfl) bm km rfl HMA.out y.room rfl hrm _ HV.out ?_)
        go_wp2_with (first
          | (at_lookup; refine lookupS _ rfl _ _ 30 rfl 9 3 Try.underlying9 Try.underlying30 (.int .i64 0) (by kernel_rfl) bm km rfl HMA.out y.room rfl hrm _ HV.out ?_)
          | (at_mapUpdate; refine updateS _ rfl _ _ _ 30 rfl 9 3 Try.underlying9 Try.underlying30 bm km rfl HMA.out (by unfold maxLen; omega) y.room rfl hrm _ rfl ?_))
        intro w6 hmap6 hturn6
        have HG6 := Lib.hid (World.mapTurned.grown hturn6)
        have HM6 := Lib.hid hmap6
        clear hmap6 hturn6
        go_wp2_with fail
        refine ⟨⟨k + 1, O, putS y.room (.int .i64 ((cn : Int) + 1)) km, by omega, by go_num, HDN.out, ?_, HM6.out, (HFR.out.trans (Fr.of_below HBA.out)).trans (Fr.of_grown HG6.out (fun r e => (Option.some.inj e).symm))⟩, by simp [intOf]; omega⟩
        exact own_same HOA.out (fun g hg e => HG6.out.block g hg (fun e2 => by have := HOB.out g e; have := Option.some.inj e2; omega))
    · obtain rfl : k = l.length := by omega
      have HND := Lib.hid HDED.out.nd
      have HSZ := Lib.hid HDED.out.sz
      have hO40 : O.length ≤ 40 := by omega
      obtain ⟨A, cp, rfl⟩ := own_form hown
      obtain ⟨w5, hren⟩ : ∃ wn : World, wn = wr := ⟨_, rfl⟩
      subst hren
      have hs45 := HFR.out.size
      have HX5 := Lib.hid (HX4.out.same hs45 (fun i hi hp => HFR.out.block i hi (fun e => by have := H3M.out; have := hp.2; omega)))
      have HY5 := Lib.hid (HY4.out.same hs45 (fun i hi hp => HFR.out.block i hi (fun e => by have := H3M.out; have := hp.2; omega)))
      have H45 := Lib.hid hs45
      clear hown hlt hk hkl hol hfs
      go_wp2_with fail
      go_loopw [87] (fun c87 wr => ∃ (k : Nat) (P : Nat → Prop) (v : Value) (kn sh : List (ByteArray × Value)) (od : List Sm), k ≤ O.length ∧ c87 = .int .i64 k ∧ LsAt wr P gx bkx bsx v 200 kn sh od ∧ (∀ i, P i → i < wr.heap.size ∧ ((w1.heap.size ≤ i ∧ i < w2.heap.size) ∨ w5.heap.size ≤ i)) ∧ LsOk kn sh od (O.take k) ∧ Fr (fun i => w1.heap.size ≤ i ∧ i < w2.heap.size) w5 wr) (fun c87 _ => O.length - (intOf c87).toNat)
      case atStart => exact ⟨0, _, _, [], [], [], by omega, rfl, HX5.out.tight, fun i hi => ⟨hi.2, .inl hi.1⟩, LsOk.nil, Fr.refl _ _⟩
      case round =>
        obtain ⟨k, P, v, kn, sh, od, hk, rfl, hls, hP, hok, hfr⟩ := hrel
        have HLS := Lib.hid hls
        have HPP := Lib.hid hP
        have HOK := Lib.hid hok
        have HF2 := Lib.hid hfr
        have hlo := hok.lo
        have hlk := hok.lk
        have hlsl := hok.ls
        have htk : (O.take k).length ≤ 40 := by rw [List.length_take]; omega
        have hs5r := hfr.size
        have B5 := Lib.hid (BR.out.trans (hfr.to_below BR.out.size (fun i hi hp => by have := B1.out.size; omega)))
        have HOW := Lib.hid (own_same HOWN.out (fun g hg e => hfr.block g hg (fun hp => by
          rcases HOWN.out.2 with ⟨h1, _⟩ | ⟨g', cap, cur, h1, h2, _⟩
          · rw [h1] at e; cases e
          · rw [h1] at e; have e2 : g' = g := Option.some.inj e; have := H34.out; omega)))
        clear hls hP hok hfr
        by_cases hlt : k < O.length
        · obtain ⟨y, hy⟩ : ∃ y, O[k]? = some y := ⟨_, List.getElem?_eq_getElem hlt⟩
          have hy150 := HSZ.out y (List.mem_of_getElem? hy)
          have HNX := Lib.hid (nd_take HND.out hy)
          have HTK1 := Lib.hid (show O.take (k + 1) = O.take k ++ [y] by rw [List.take_add_one, hy]; rfl)
          obtain ⟨g, rfl⟩ : ∃ g, A = some ⟨g, 0, none⟩ := by
            rcases HOWN.out.2 with ⟨h1, h2⟩ | ⟨g', cap, cur, h1, _⟩
            · omega
            · injection h1 with h1; exact ⟨_, h1⟩
          have HLD := Lib.hid (own_holdsE HOW.out hy hlt)
          have hrm : y.room.size ≤ maxLen := by unfold maxLen; omega
          clear hy
          go_upto_region 21 with (refine wpList_load_at rfl _ _ rfl ⟨g, k * 10, none⟩ rfl y.cells _ HLD.out Try.underlying32 rfl (sizeE y) ?_)
          obtain ⟨wa, hwa⟩ : ∃ wa : World, wa = wr.alloc (.cells y.cells 32) := ⟨_, rfl⟩
          rw [← hwa]
          have hba : Below wr.heap.size wr wa := by rw [hwa]; exact (Below.refl _ _).alloc (Nat.le_refl _) _
          have HYA := Lib.hid (show wa.heap[wr.heap.size]? = some (.cells y.cells 32 (0, 0)) by rw [hwa]; exact heap_new_at _ _ _ rfl)
          have y0 : wa.cell? ⟨wr.heap.size, 0, none⟩ = some (.string y.room) := cell_at (j := 0) HYA.out rfl
          have HLA := Lib.hid (HLS.out.below hba)
          have HBA := Lib.hid hba
          have HPR := Lib.hid (show ¬ P wr.heap.size from fun hp => by have := (HPP.out _ hp).1; omega)
          have HMA := Lib.hid (HM.out.below (B5.out.trans (hba.mono B5.out.size)) HP.out)
          clear hwa hba
          cases hv : validS y with
          | true =>
            go_wp2_with fail
            refine (show_calls HLA.out y.room (by omega) HMA.out hv (sh_none HOK.out.s HNX.out) (by omega) none (kn_none HOK.out.k HNX.out) (by omega) (by omega)).mono ?_
            rintro e wb ⟨rfl, vb, hlb, hfb⟩
            have HLB := Lib.hid hlb.tight
            have HFB := Lib.hid hfb
            have HYB := Lib.hid ((hfb.block _ (blk_lt HYA.out) HPR.out).trans HYA.out)
            clear hlb hfb y0
            go_wp2_with (refine wpList_load_at rfl _ _ rfl ⟨wr.heap.size, 0, none⟩ rfl y.cells _ (Holds.of_block HYB.out) Try.underlying32 rfl (sizeE y) ?_)
            refine (real15_calls wb y).mono ?_
            rintro e wc ⟨rfl, hbc⟩
            have HLC := Lib.hid (HLB.out.below hbc)
            have HFC := Lib.hid (HFB.out.trans (Fr.of_below hbc))
            clear hbc
            go_wp2_with fail
            refine (update_calls HLC.out y hrm (kn_none HOK.out.k HNX.out) true (by rw [getS_put, if_pos (by simp)]; rfl) (by have : (inL none true od).length = od.length := rfl; omega) (by omega)).mono ?_
            rintro e wd ⟨rfl, vd, hld, hfd⟩
            have HLD2 := Lib.hid hld.tight
            have HFD := Lib.hid hfd
            clear hld hfd
            go_wp2_with fail
            have hab := HBA.out.size
            have hbc := HFB.out.size
            have hcd := HFC.out.size
            refine ⟨⟨k + 1, _, vd, _, _, _, by omega, by go_num, HLD2.out, ?_, by rw [HTK1.out]; exact HOK.out.good HNX.out hv, ?_⟩, by simp [intOf]; omega⟩
            · intro i hi
              refine ⟨hi.2, ?_⟩
              rcases hi.1 with ⟨h1 | h1, _⟩ | h1
              · exact (HPP.out i h1).2
              · exact .inr (by omega)
              · exact .inr (by omega)
            · refine ((HF2.out.trans (Fr.of_below HBA.out)).then_ HFC.out (fun i hi hp => ?_)).then_ HFD.out (fun i hi hp => ?_)
              · rcases (HPP.out i hp).2 with h1 | h1
                · exact h1
                · omega
              · rcases hp.1 with h1 | h1
                · rcases (HPP.out i h1).2 with h2 | h2
                  · exact h2
                  · omega
                · omega
          | false =>
            go_wp2_with fail
            refine (show_bad (g := gx) y.room (by omega) HMA.out hv).mono ?_
            rintro e wb ⟨rfl, hbb⟩
            have HLB := Lib.hid (HLA.out.below hbb)
            have HBB := Lib.hid (HBA.out.trans (hbb.mono HBA.out.size))
            have HYB := Lib.hid ((hbb.block _ (blk_lt HYA.out)).trans HYA.out)
            clear hbb y0
            go_wp2_with (refine wpList_load_at rfl _ _ rfl ⟨wr.heap.size, 0, none⟩ rfl y.cells _ (Holds.of_block HYB.out) Try.underlying32 rfl (sizeE y) ?_)
            refine (real15_calls wb y).mono ?_
            rintro e wc ⟨rfl, hbc⟩
            have HLC := Lib.hid (HLB.out.below hbc)
            have HBC := Lib.hid (HBB.out.trans (hbc.mono HBB.out.size))
            clear hbc
            go_wp2_with fail
            refine (update_calls HLC.out y hrm (kn_none HOK.out.k HNX.out) false (by rw [sh_none HOK.out.s HNX.out]; rfl) (by omega) (by omega)).mono ?_
            rintro e wd ⟨rfl, vd, hld, hfd⟩
            have HLD2 := Lib.hid hld.tight
            have HFD := Lib.hid hfd
            clear hld hfd
            go_wp2_with fail
            have hac := HBC.out.size
            refine ⟨⟨k + 1, _, vd, _, _, _, by omega, by go_num, HLD2.out, ?_, by rw [HTK1.out]; exact HOK.out.bad HNX.out hv, ?_⟩, by simp [intOf]; omega⟩
            · intro i hi
              refine ⟨hi.2, ?_⟩
              rcases hi.1 with h1 | h1
              · exact (HPP.out i h1).2
              · exact .inr (by omega)
            · refine (HF2.out.trans (Fr.of_below HBC.out)).then_ HFD.out (fun i hi hp => ?_)
              rcases (HPP.out i hp).2 with h1 | h1
              · exact h1
              · omega
        · obtain rfl : k = O.length := by omega
          rw [List.take_of_length_le (Nat.le_refl _)] at HOK htk
          have hbw : w5.heap.size ≤ wr.heap.size := hs5r
          obtain ⟨w6, hren⟩ : ∃ wn : World, wn = wr := ⟨_, rfl⟩
          subst hren
          have HSX := Lib.hid HLS.out.srt
          clear hlo hlk hlsl htk hk hlt
          go_wp2_with fail
          go_loopw [102] (fun c102 wr => ∃ (k : Nat) (O2 : List Sm), k ≤ ks.length ∧ c102 = .int .i64 k ∧ O2.Perm O ∧ wr.ownsRow w4.heap.size 32 10 (.slice A O.length cp) O.length (smc O2).flatten ∧ Fr (fun i => (Value.slice A O.length cp).ownBlock = some i) w6 wr) (fun c102 _ => ks.length - (intOf c102).toNat)
          case atStart => exact ⟨0, O, by omega, rfl, List.Perm.refl _, HOW.out, Fr.refl _ _⟩
          case round =>
            obtain ⟨k, O2, hk, rfl, hperm, hown, hfr⟩ := hrel
            have HPE := Lib.hid hperm
            have HO3 := Lib.hid hown
            have HF3 := Lib.hid hfr
            have hl2 := hperm.length_eq
            have B6 := Lib.hid (B5.out.trans (hfr.to_below B5.out.size (fun i hi hp => by
              rcases HOWN.out.2 with ⟨h1, _⟩ | ⟨g', cap, cur, h1, h2, _⟩
              · rw [h1] at hp; cases hp
              · rw [h1] at hp; have e2 : g' = i := Option.some.inj hp; have := B4.out.size; omega)))
            clear hperm hown hfr
            by_cases hlt : k < ks.length
            · obtain ⟨kb, hkb⟩ : ∃ kb, ks[k]? = some kb := ⟨_, List.getElem?_eq_getElem hlt⟩
              obtain ⟨ad2, rfl, hadl, hcell⟩ := (HIT.out.below B6.out rfl).2 (by omega)
              obtain ⟨hk256, cb⟩ := hcell k kb hkb
              clear hcell hkb
              by_cases hO0 : O.length = 0
              · have hd0 : decide ((0 : Int) < (O.length : Int)) = false := decide_eq_false (by omega)
                have hd1 : decide ((O.length : Int) > 0) = false := decide_eq_false (by omega)
                go_wp2_with fail
                exact ⟨⟨k + 1, O2, by omega, by go_num, HPE.out, HO3.out, HF3.out⟩, by simp [intOf]; omega⟩
              · have hd0 : decide ((0 : Int) < (O.length : Int)) = true := decide_eq_true (by omega)
                have hd1 : decide ((O.length : Int) > 0) = true := decide_eq_true (by omega)
                have hnz : ¬ ((O.length : Int) = 0) := by omega
                have hnz2 : ((O.length : Int) == 0) = false := beq_eq_false_iff_ne.2 (by omega)
                go_upto_region 28 with fail
                go_quiet (fail)
                obtain ⟨wq, hwq⟩ : ∃ wq : World, wq = wr.drewN nq := ⟨_, rfl⟩
                rw [← hwq]
                have hbq : Below wr.heap.size wr wq := by rw [hwq]; exact below_drewN' (Below.refl _ _) _
                rw [show ((k : Int) % (O.length : Int)) = ((k % O.length : Nat) : Int) from (Int.natCast_emod _ _).symm, show ((kb : Int) % (O.length : Int)) = ((kb % O.length : Nat) : Int) from (Int.natCast_emod _ _).symm]
                have hia : k % O.length < O.length := Nat.mod_lt _ (by omega)
                have hib : kb % O.length < O.length := Nat.mod_lt _ (by omega)
                generalize k % O.length = ia at hia
                generalize kb % O.length = ib at hib
                obtain ⟨x, hx⟩ : ∃ x, O2[ia]? = some x := ⟨_, List.getElem?_eq_getElem (by omega)⟩
                obtain ⟨y, hy⟩ : ∃ y, O2[ib]? = some y := ⟨_, List.getElem?_eq_getElem (by omega)⟩
                obtain ⟨g, rfl⟩ : ∃ g, A = some ⟨g, 0, none⟩ := by
                  rcases HOWN.out.2 with ⟨h1, h2⟩ | ⟨g', cap, cur, h1, _⟩
                  · omega
                  · injection h1 with h1; exact ⟨_, h1⟩
                have hoq := own_below HO3.out (hbq.trans ((Below.refl wq.heap.size wq).drew.mono hbq.size))
                rw [← hl2] at hoq
                have HOQ := Lib.hid hoq
                have HSW := Lib.hid (swap_perm hx hy)
                have HHX := Lib.hid (own_holdsE hoq hx (by omega))
                have HHY := Lib.hid (own_holdsE hoq hy (by omega))
                have HBQ := Lib.hid (hbq.trans ((Below.refl wq.heap.size wq).drew.mono hbq.size))
                have HS1 := Lib.hid (own_set hoq (k := ia) (by omega) y)
                have hsl : (O2.set ia y).length = O2.length := List.length_set
                have HS2 := Lib.hid (own_set HS1.out (k := ib) (by omega) x)
                clear hwq hx hy hoq hbq cb
                go_upto_region 29 with fail
                refine wt_start (S := fun W => True) 15 (by kernel_rfl) ⟨by kernel_rfl, by kernel_rfl, by kernel_rfl, by decide⟩ ?_
                intro HTK
                obtain ⟨q0w, hq0w⟩ : ∃ wn : World, wn = wq.drew := ⟨_, rfl⟩
                rw [← hq0w] at HOQ HHX HHY HBQ HS1 HS2 ⊢
                clear hq0w
                refine wt_take (i := 0) (v := ?_) HTK.out rfl (by decide) (by kernel_rfl) (by kernel_rfl) (fun _ _ _ h => h) (by exact trivial) (Or.inl ⟨by rfl, ?_⟩) ?_
                rotate_left
                · intro W hSw
                  try dsimp only at hSw
                  go_simp
                  try (with_reducible rfl)
                try simp only [List.getElem_toArray, List.getElem_cons_zero, List.getElem_cons_succ, Act.put, List.setIfInBounds_toArray, List.set_cons_zero, List.set_cons_succ]
                refine wt_take (i := 1) (v := ?_) HTK.out rfl (by decide) (by kernel_rfl) (by kernel_rfl) (fun _ _ _ h => h) (by exact trivial) (Or.inl ⟨by rfl, ?_⟩) ?_
                rotate_left
                · intro W hSw
                  try dsimp only at hSw
                  go_simp
                  try (with_reducible rfl)
                try simp only [List.getElem_toArray, List.getElem_cons_zero, List.getElem_cons_succ, Act.put, List.setIfInBounds_toArray, List.set_cons_zero, List.set_cons_succ]
                refine wt_take (i := 2) (v := ?_) HTK.out rfl (by decide) (by kernel_rfl) (by kernel_rfl) (fun _ _ _ h => h) (by exact trivial) (Or.inl ⟨by rfl, ?_⟩) ?_
                rotate_left
                · intro W hSw
                  try dsimp only at hSw
                  go_simp
                  try (with_reducible rfl)
                try simp only [List.getElem_toArray, List.getElem_cons_zero, List.getElem_cons_succ, Act.put, List.setIfInBounds_toArray, List.set_cons_zero, List.set_cons_succ]
                refine wt_take (i := 3) (v := ?_) HTK.out rfl (by decide) (by kernel_rfl) (by kernel_rfl) (fun _ _ _ h => h) (by exact trivial) (Or.inl ⟨by rfl, ?_⟩) ?_
                rotate_left
                · intro W hSw
                  try dsimp only at hSw
                  go_simp
                  try (with_reducible rfl)
                try simp only [List.getElem_toArray, List.getElem_cons_zero, List.getElem_cons_succ, Act.put, List.setIfInBounds_toArray, List.set_cons_zero, List.set_cons_succ]
                refine wt_take (i := 4) (v := ?_) HTK.out rfl (by decide) (by kernel_rfl) (by kernel_rfl) (fun _ _ _ h => h) (by exact trivial) (Or.inl ⟨by rfl, ?_⟩) ?_
                rotate_left
                · intro W hSw
                  try dsimp only at hSw
                  go_simp
                  try (with_reducible rfl)
                try simp only [List.getElem_toArray, List.getElem_cons_zero, List.getElem_cons_succ, Act.put, List.setIfInBounds_toArray, List.set_cons_zero, List.set_cons_succ]
                refine wt_take (i := 5) (v := ?_) HTK.out rfl (by decide) (by kernel_rfl) (by kernel_rfl) (fun _ _ _ h => h) (by exact trivial) (Or.inl ⟨by rfl, ?_⟩) ?_
                rotate_left
                · intro W hSw
                  try dsimp only at hSw
                  go_simp
                  try (with_reducible rfl)
                try simp only [List.getElem_toArray, List.getElem_cons_zero, List.getElem_cons_succ, Act.put, List.setIfInBounds_toArray, List.set_cons_zero, List.set_cons_succ]
                refine wt_take (i := 6) (v := ?_) HTK.out rfl (by decide) (by kernel_rfl) (by kernel_rfl) (fun _ _ _ h => h) (by exact trivial) (Or.inl ⟨by rfl, ?_⟩) ?_
                rotate_left
                · intro W hSw
                  try dsimp only at hSw
                  go_simp
                  try (with_reducible rfl)
                try simp only [List.getElem_toArray, List.getElem_cons_zero, List.getElem_cons_succ, Act.put, List.setIfInBounds_toArray, List.set_cons_zero, List.set_cons_succ]
                refine wt_take (i := 8) (v := ?_) HTK.out rfl (by decide) (by kernel_rfl) (by kernel_rfl) (fun _ _ _ h => h) (by exact trivial) (Or.inl ⟨by rfl, ?_⟩) ?_
                rotate_left
                · intro W hSw
                  try dsimp only at hSw
                  go_simp
                  try (with_reducible rfl)
                try simp only [List.getElem_toArray, List.getElem_cons_zero, List.getElem_cons_succ, Act.put, List.setIfInBounds_toArray, List.set_cons_zero, List.set_cons_succ]
                refine wt_take (i := 9) (v := ?_) HTK.out rfl (by decide) (by kernel_rfl) (by kernel_rfl) (fun _ _ _ h => h) (by exact trivial) (Or.inl ⟨by rfl, ?_⟩) ?_
                rotate_left
                · intro W hSw
                  try dsimp only at hSw
                  go_simp
                  try (with_reducible rfl)
                try simp only [List.getElem_toArray, List.getElem_cons_zero, List.getElem_cons_succ, Act.put, List.setIfInBounds_toArray, List.set_cons_zero, List.set_cons_succ]
                refine wt_take (i := 10) (v := ?_) HTK.out rfl (by decide) (by kernel_rfl) (by kernel_rfl) (fun _ _ _ h => h) (by exact trivial) (Or.inl ⟨by rfl, ?_⟩) ?_
                rotate_left
                · intro W hSw
                  try dsimp only at hSw
                  go_simp
                  try (with_reducible rfl)
                try simp only [List.getElem_toArray, List.getElem_cons_zero, List.getElem_cons_succ, Act.put, List.setIfInBounds_toArray, List.set_cons_zero, List.set_cons_succ]
                refine wt_ready (rs := [7, 11]) (by kernel_rfl) (by simp) ?_
                refine AllT.cons rfl (by decide) (fun K hK => ?_) ?_
                · refine step_load_at (by rfl) _ _ (by rfl) ⟨g, ib * 10, none⟩ (by rfl) y.cells _ HHY.out Try.underlying32 (by rfl) (sizeE y) ?_
                  refine hK.out _ _ (by exact trivial) ?_
                  clear hK K
                  try simp only [List.getElem_toArray, List.getElem_cons_zero, List.getElem_cons_succ, Act.put, List.setIfInBounds_toArray, List.set_cons_zero, List.set_cons_succ]
                  refine wt_ready (rs := [11]) (by kernel_rfl) (by simp) ?_
                  refine AllT.cons rfl (by decide) (fun K hK => ?_) ?_
                  · refine step_load_at (by rfl) _ _ (by rfl) ⟨g, ia * 10, none⟩ (by rfl) x.cells _ HHX.out Try.underlying32 (by rfl) (sizeE x) ?_
                    refine hK.out _ _ (by exact trivial) ?_
                    clear hK K
                    try simp only [List.getElem_toArray, List.getElem_cons_zero, List.getElem_cons_succ, Act.put, List.setIfInBounds_toArray, List.set_cons_zero, List.set_cons_succ]
                    refine wt_take (i := 12) (v := ?_) HTK.out rfl (by decide) (by kernel_rfl) (by kernel_rfl) (fun _ _ _ h => h) (by exact trivial) (Or.inl ⟨by rfl, ?_⟩) ?_
                    rotate_left
                    · intro W hSw
                      try dsimp only at hSw
                      go_simp
                      try (with_reducible rfl)
                    try simp only [List.getElem_toArray, List.getElem_cons_zero, List.getElem_cons_succ, Act.put, List.setIfInBounds_toArray, List.set_cons_zero, List.set_cons_succ]
                    refine wt_ready (rs := [13]) (by kernel_rfl) (by simp) ?_
                    refine AllT.cons rfl (by decide) (fun K hK => ?_) ?_
                    · refine step_store_mid (by rfl) _ _ _ (by rfl) g (ia * 10) y.cells (by rfl) (by rfl) (own_there HOQ.out (by omega)) (sizeE y) (allSm y) ?_
                      obtain ⟨ws, hws⟩ : ∃ ws : World, ws = q0w.setCells g (ia * 10) y.cells.toList := ⟨_, rfl⟩
                      have HWS := Lib.hid hws
                      rw [← hws] at HS1 HS2 ⊢
                      clear hws
                      refine hK.out _ _ (by exact trivial) ?_
                      clear hK K
                      try simp only [List.getElem_toArray, List.getElem_cons_zero, List.getElem_cons_succ, Act.put, List.setIfInBounds_toArray, List.set_cons_zero, List.set_cons_succ]
                      refine wt_take (i := 14) (v := ?_) HTK.out rfl (by decide) (by kernel_rfl) (by kernel_rfl) (fun _ _ _ h => h) (by exact trivial) (Or.inl ⟨by rfl, ?_⟩) ?_
                      rotate_left
                      · intro W hSw
                        try dsimp only at hSw
                        go_simp
                        try (with_reducible rfl)
                      try simp only [List.getElem_toArray, List.getElem_cons_zero, List.getElem_cons_succ, Act.put, List.setIfInBounds_toArray, List.set_cons_zero, List.set_cons_succ]
                      refine wt_last (k := 15) (by kernel_rfl) (by kernel_rfl) (by decide) rfl (fun K hK => ?_)
                      refine step_store_mid (by rfl) _ _ _ (by rfl) g (ib * 10) x.cells (by rfl) (by rfl) (own_there HS1.out (by omega)) (sizeE x) (allSm x) ?_
                      obtain ⟨wt, hwt⟩ : ∃ wt : World, wt = ws.setCells g (ib * 10) x.cells.toList := ⟨_, rfl⟩
                      have HWT := Lib.hid hwt
                      rw [← hwt] at HS2 ⊢
                      clear hwt
                      refine hK.out _ _ ?_
                      clear hK K
                      try simp only [List.getElem_toArray, List.getElem_cons_zero, List.getElem_cons_succ, Act.put, List.setIfInBounds_toArray, List.set_cons_zero, List.set_cons_succ]
                      go_wp2_with fail
                      refine ⟨⟨k + 1, (O2.set ia y).set ib x, by omega, by go_num, HSW.out.trans HPE.out, ?_, ?_⟩, by simp [intOf]; omega⟩
                      · have h1 := HS2.out
                        simp only [List.length_set] at h1
                        rw [hl2] at h1
                        exact h1
                      · rw [HWT.out, HWS.out]
                        exact ((HF3.out.trans (Fr.of_below HBQ.out)).trans (Fr.of_grown (setCells_grown g _ _ _) (fun r e => by rw [← e]; rfl))).trans (Fr.of_grown (setCells_grown g _ _ _) (fun r e => by rw [← e]; rfl))
                    exact AllT.nil
                  exact AllT.nil
                refine AllT.cons rfl (by decide) (fun K hK => ?_) ?_
                · refine step_load_at (by rfl) _ _ (by rfl) ⟨g, ia * 10, none⟩ (by rfl) x.cells _ HHX.out Try.underlying32 (by rfl) (sizeE x) ?_
                  refine hK.out _ _ (by exact trivial) ?_
                  clear hK K
                  try simp only [List.getElem_toArray, List.getElem_cons_zero, List.getElem_cons_succ, Act.put, List.setIfInBounds_toArray, List.set_cons_zero, List.set_cons_succ]
                  refine wt_ready (rs := [7]) (by kernel_rfl) (by simp) ?_
                  refine AllT.cons rfl (by decide) (fun K hK => ?_) ?_
                  · refine step_load_at (by rfl) _ _ (by rfl) ⟨g, ib * 10, none⟩ (by rfl) y.cells _ HHY.out Try.underlying32 (by rfl) (sizeE y) ?_
                    refine hK.out _ _ (by exact trivial) ?_
                    clear hK K
                    try simp only [List.getElem_toArray, List.getElem_cons_zero, List.getElem_cons_succ, Act.put, List.setIfInBounds_toArray, List.set_cons_zero, List.set_cons_succ]
                    refine wt_take (i := 12) (v := ?_) HTK.out rfl (by decide) (by kernel_rfl) (by kernel_rfl) (fun _ _ _ h => h) (by exact trivial) (Or.inl ⟨by rfl, ?_⟩) ?_
                    rotate_left
                    · intro W hSw
                      try dsimp only at hSw
                      go_simp
                      try (with_reducible rfl)
                    try simp only [List.getElem_toArray, List.getElem_cons_zero, List.getElem_cons_succ, Act.put, List.setIfInBounds_toArray, List.set_cons_zero, List.set_cons_succ]
                    refine wt_ready (rs := [13]) (by kernel_rfl) (by simp) ?_
                    refine AllT.cons rfl (by decide) (fun K hK => ?_) ?_
                    · refine step_store_mid (by rfl) _ _ _ (by rfl) g (ia * 10) y.cells (by rfl) (by rfl) (own_there HOQ.out (by omega)) (sizeE y) (allSm y) ?_
                      obtain ⟨ws, hws⟩ : ∃ ws : World, ws = q0w.setCells g (ia * 10) y.cells.toList := ⟨_, rfl⟩
                      have HWS := Lib.hid hws
                      rw [← hws] at HS1 HS2 ⊢
                      clear hws
                      refine hK.out _ _ (by exact trivial) ?_
                      clear hK K
                      try simp only [List.getElem_toArray, List.getElem_cons_zero, List.getElem_cons_succ, Act.put, List.setIfInBounds_toArray, List.set_cons_zero, List.set_cons_succ]
                      refine wt_take (i := 14) (v := ?_) HTK.out rfl (by decide) (by kernel_rfl) (by kernel_rfl) (fun _ _ _ h => h) (by exact trivial) (Or.inl ⟨by rfl, ?_⟩) ?_
                      rotate_left
                      · intro W hSw
                        try dsimp only at hSw
                        go_simp
                        try (with_reducible rfl)
                      try simp only [List.getElem_toArray, List.getElem_cons_zero, List.getElem_cons_succ, Act.put, List.setIfInBounds_toArray, List.set_cons_zero, List.set_cons_succ]
                      refine wt_last (k := 15) (by kernel_rfl) (by kernel_rfl) (by decide) rfl (fun K hK => ?_)
                      refine step_store_mid (by rfl) _ _ _ (by rfl) g (ib * 10) x.cells (by rfl) (by rfl) (own_there HS1.out (by omega)) (sizeE x) (allSm x) ?_
                      obtain ⟨wt, hwt⟩ : ∃ wt : World, wt = ws.setCells g (ib * 10) x.cells.toList := ⟨_, rfl⟩
                      have HWT := Lib.hid hwt
                      rw [← hwt] at HS2 ⊢
                      clear hwt
                      refine hK.out _ _ ?_
                      clear hK K
                      try simp only [List.getElem_toArray, List.getElem_cons_zero, List.getElem_cons_succ, Act.put, List.setIfInBounds_toArray, List.set_cons_zero, List.set_cons_succ]
                      go_wp2_with fail
                      refine ⟨⟨k + 1, (O2.set ia y).set ib x, by omega, by go_num, HSW.out.trans HPE.out, ?_, ?_⟩, by simp [intOf]; omega⟩
                      · have h1 := HS2.out
                        simp only [List.length_set] at h1
                        rw [hl2] at h1
                        exact h1
                      · rw [HWT.out, HWS.out]
                        exact ((HF3.out.trans (Fr.of_below HBQ.out)).trans (Fr.of_grown (setCells_grown g _ _ _) (fun r e => by rw [← e]; rfl))).trans (Fr.of_grown (setCells_grown g _ _ _) (fun r e => by rw [← e]; rfl))
                    exact AllT.nil
                  exact AllT.nil
                exact AllT.nil
            · obtain rfl : k = ks.length := by omega
              obtain ⟨w7, hren⟩ : ∃ wn : World, wn = wr := ⟨_, rfl⟩
              subst hren
              have HGB := Lib.hid (show ∀ i, (Value.slice A O.length cp).ownBlock = some i → w4.heap.size ≤ i ∧ i < w5.heap.size from fun i e => by
                rcases HOWN.out.2 with ⟨h1, _⟩ | ⟨g', cap, cur, h1, h2, h3, _⟩
                · rw [h1] at e; cases e
                · rw [h1] at e; have e2 : g' = i := Option.some.inj e; rw [← e2]; exact ⟨h2, blk_lt h3⟩)
              have HX7 := Lib.hid (HLS.out.same HF3.out.size (fun i hi hp => HF3.out.block i hi (fun e => by
                have h1 := HGB.out i e
                have h2 := (HPP.out i hp).2
                have := H34.out
                omega)))
              have HY6 := Lib.hid (HY5.out.same HF2.out.size (fun i hi hp => HF2.out.block i hi (fun e => by have := e.2; have := hp.1; omega)))
              have HY7 := Lib.hid (HY6.out.same HF3.out.size (fun i hi hp => HF3.out.block i hi (fun e => by
                have h1 := HGB.out i e
                have := hp.2
                have := H34.out
                omega)))
              have HND2 := Lib.hid ((HPE.out.map (·.room)).nodup_iff.2 HND.out)
              have HSZ2 := Lib.hid (fun (x : Sm) (hx : x ∈ O2) => HSZ.out x (HPE.out.mem_iff.1 hx))
              have hs67 := HF3.out.size
              clear hk hlt
              go_wp2_with fail
              go_loopw [136] (fun c136 wr => ∃ (k : Nat) (P2 : Nat → Prop) (v2 : Value) (kn2 sh2 : List (ByteArray × Value)) (od2 : List Sm), k ≤ O.length ∧ c136 = .int .i64 k ∧ LsAt wr P2 gy bky bsy v2 200 kn2 sh2 od2 ∧ (∀ i, P2 i → i < wr.heap.size ∧ ((w2.heap.size ≤ i ∧ i < w3.heap.size) ∨ w7.heap.size ≤ i)) ∧ LsOk kn2 sh2 od2 (O2.take k) ∧ Fr (fun i => w2.heap.size ≤ i ∧ i < w3.heap.size) w7 wr) (fun c136 _ => O.length - (intOf c136).toNat)
              case atStart => exact ⟨0, _, _, [], [], [], by omega, rfl, HY7.out.tight, fun i hi => ⟨hi.2, .inl hi.1⟩, LsOk.nil, Fr.refl _ _⟩
              case round =>
                obtain ⟨k, P2, v2, kn2, sh2, od2, hk, rfl, hls, hP, hok, hfr⟩ := hrel
                have HLS2 := Lib.hid hls
                have HPP2 := Lib.hid hP
                have HOK2 := Lib.hid hok
                have HF4 := Lib.hid hfr
                have hlo := hok.lo
                have hlk := hok.lk
                have hlsl := hok.ls
                have htk : (O2.take k).length ≤ 40 := by rw [List.length_take]; omega
                have hs7r := hfr.size
                have B7 := Lib.hid (B6.out.trans (hfr.to_below B6.out.size (fun i hi hp => by have := B2.out.size; omega)))
                have HOW4 := Lib.hid (own_same HO3.out (fun g hg e => hfr.block g hg (fun hp => by have h1 := HGB.out g e; have := H34.out; omega)))
                clear hls hP hok hfr
                by_cases hlt : k < O.length
                · obtain ⟨y, hy⟩ : ∃ y, O2[k]? = some y := ⟨_, List.getElem?_eq_getElem (by omega)⟩
                  have hy150 := HSZ2.out y (List.mem_of_getElem? hy)
                  have HNX := Lib.hid (nd_take HND2.out hy)
                  have HTK1 := Lib.hid (show O2.take (k + 1) = O2.take k ++ [y] by rw [List.take_add_one, hy]; rfl)
                  obtain ⟨g, rfl⟩ : ∃ g, A = some ⟨g, 0, none⟩ := by
                    rcases HOWN.out.2 with ⟨h1, h2⟩ | ⟨g', cap, cur, h1, _⟩
                    · omega
                    · injection h1 with h1; exact ⟨_, h1⟩
                  have HLD := Lib.hid (own_holdsE HOW4.out hy hlt)
                  have hrm : y.room.size ≤ maxLen := by unfold maxLen; omega
                  clear hy
                  go_upto_region 34 with (refine wpList_load_at rfl _ _ rfl ⟨g, k * 10, none⟩ rfl y.cells _ HLD.out Try.underlying32 rfl (sizeE y) ?_)
                  obtain ⟨wa, hwa⟩ : ∃ wa : World, wa = wr.alloc (.cells y.cells 32) := ⟨_, rfl⟩
                  rw [← hwa]
                  have hba : Below wr.heap.size wr wa := by rw [hwa]; exact (Below.refl _ _).alloc (Nat.le_refl _) _
                  have HYA := Lib.hid (show wa.heap[wr.heap.size]? = some (.cells y.cells 32 (0, 0)) by rw [hwa]; exact heap_new_at _ _ _ rfl)
                  have HLA := Lib.hid (HLS2.out.below hba)
                  have HBA := Lib.hid hba
                  have HPR := Lib.hid (show ¬ P2 wr.heap.size from fun hp => by have := (HPP2.out _ hp).1; omega)
                  have hpw : ∀ i, P2 i → w.heap.size ≤ i := fun i hp => by
                    have := B2.out.size
                    rcases (HPP2.out i hp).2 with h1 | h1
                    · omega
                    · have := B6.out.size; omega
                  have HPW := Lib.hid hpw
                  clear hwa hba hpw
                  go_wp2_with (refine wpList_load_at rfl _ _ rfl ⟨wr.heap.size, 0, none⟩ rfl y.cells _ (Holds.of_block HYA.out) Try.underlying32 rfl (sizeE y) ?_)
                  refine (real15_calls wa y).mono ?_
                  rintro e wb ⟨rfl, hbb⟩
                  have HLB := Lib.hid (HLA.out.below hbb)
                  have HBB := Lib.hid (HBA.out.trans (hbb.mono HBA.out.size))
                  have HYB := Lib.hid ((hbb.block _ (blk_lt HYA.out)).trans HYA.out)
                  clear hbb
                  go_wp2_with fail
                  refine (update_calls HLB.out y hrm (kn_none HOK2.out.k HNX.out) false (by rw [sh_none HOK2.out.s HNX.out]; rfl) (by omega) (by omega)).mono ?_
                  rintro e wc ⟨rfl, vc, hlc, hfc⟩
                  have HLC := Lib.hid hlc.tight
                  have HFC := Lib.hid hfc
                  have HYC := Lib.hid ((hfc.block _ (blk_lt HYB.out) HPR.out).trans HYB.out)
                  have BB := B7.out.trans (HBB.out.mono B7.out.size)
                  have HMC := Lib.hid (HM.out.below (BB.trans (hfc.to_below BB.size (fun i hi hp => by have := HPW.out i hp; omega))) HP.out)
                  have y0 : wc.cell? ⟨wr.heap.size, 0, none⟩ = some (.string y.room) := cell_at (j := 0) HYC.out rfl
                  have hab := HBB.out.size
                  have hbc := HFC.out.size
                  clear hlc hfc BB
                  cases hv : validS y with
                  | true =>
                    go_wp2_with fail
                    refine (show_calls HLC.out y.room (by omega) HMC.out hv (sh_none HOK2.out.s HNX.out) (by omega) (some y) (by rw [getS_put, if_pos (by simp)]; rfl) (by have : (inL (some y) false od2).length = od2.length := rfl; omega) (by omega)).mono ?_
                    rintro e wd ⟨rfl, vd, hld, hfd⟩
                    have HLD2 := Lib.hid hld.tight
                    have HFD := Lib.hid hfd
                    clear hld hfd y0
                    go_wp2_with fail
                    refine ⟨⟨k + 1, _, vd, _, _, _, by omega, by go_num, HLD2.out, ?_, by rw [HTK1.out]; exact HOK2.out.good HNX.out hv, ?_⟩, by simp [intOf]; omega⟩
                    · intro i hi
                      refine ⟨hi.2, ?_⟩
                      rcases hi.1 with ⟨h1 | h1, _⟩ | h1
                      · exact (HPP2.out i h1).2
                      · exact .inr (by omega)
                      · exact .inr (by omega)
                    · refine ((HF4.out.trans (Fr.of_below HBB.out)).then_ HFC.out (fun i hi hp => by
                        rcases (HPP2.out i hp).2 with h1 | h1
                        · exact h1
                        · omega)).then_ HFD.out (fun i hi hp => ?_)
                      rcases hp.1 with h1 | h1
                      · rcases (HPP2.out i h1).2 with h2 | h2
                        · exact h2
                        · omega
                      · omega
                  | false =>
                    go_wp2_with fail
                    refine (show_bad (g := gy) y.room (by omega) HMC.out hv).mono ?_
                    rintro e wd ⟨rfl, hbd⟩
                    have HLD2 := Lib.hid (HLC.out.below hbd)
                    have HBD := Lib.hid hbd
                    clear hbd y0
                    go_wp2_with fail
                    have hcd := HBD.out.size
                    refine ⟨⟨k + 1, _, vc, _, _, _, by omega, by go_num, HLD2.out, ?_, by rw [HTK1.out]; exact HOK2.out.bad HNX.out hv, ?_⟩, by simp [intOf]; omega⟩
                    · intro i hi
                      have h2 := hi.2
                      refine ⟨by omega, ?_⟩
                      rcases hi.1 with h1 | h1
                      · exact (HPP2.out i h1).2
                      · exact .inr (by omega)
                    · exact ((HF4.out.trans (Fr.of_below HBB.out)).then_ HFC.out (fun i hi hp => by
                        rcases (HPP2.out i hp).2 with h1 | h1
                        · exact h1
                        · omega)).trans (Fr.of_below HBD.out)
                · obtain rfl : k = O.length := by omega
                  have hOO : O2.take O.length = O2 := List.take_of_length_le (by omega)
                  have hok2 := HOK2.out
                  rw [hOO] at hok2
                  have hod := od_same HOK.out.o hok2.o HPE.out.symm HND.out HSX.out HLS2.out.srt
                  have hodl := HOK.out.lo
                  have HNO := Lib.hid (od_rooms HOK.out.o HND.out)
                  subst hod
                  have HX8 := Lib.hid (HX7.out.same HF4.out.size (fun i hi hp => HF4.out.block i hi (fun e => by
                    have h2 := (HPP.out i hp).2
                    have := H34.out
                    omega)))
                  obtain ⟨w8, hren⟩ : ∃ wn : World, wn = wr := ⟨_, rfl⟩
                  subst hren
                  clear hok2 hOO hk hlt hlo hlk hlsl htk
                  go_wp2_with fail
                  refine (lall_calls HX8.out (by omega)).mono ?_
                  rintro e w9 ⟨⟨A1, n1, c1⟩, rfl, hr1, hb1⟩
                  obtain rfl : n1 = od.length := by simpa using hr1.1
                  have HLY := Lib.hid (HLS2.out.below hb1)
                  have HR1 := Lib.hid hr1
                  have B9 := Lib.hid (B7.out.trans (hb1.mono B7.out.size))
                  clear hr1 hb1
                  go_wp2_with fail
                  refine (lall_calls HLY.out (by omega)).mono ?_
                  rintro e w10 ⟨⟨A2, n2, c2⟩, rfl, hr2, hb2⟩
                  obtain rfl : n2 = od.length := by simpa using hr2.1
                  have HR1b := Lib.hid (HR1.out.same hb2.size (fun g hg _ => hb2.block g hg))
                  have HR2 := Lib.hid hr2
                  have B10 := Lib.hid (B9.out.trans (hb2.mono B9.out.size))
                  clear hr2 hb2
                  simp only [Sl.val]
                  go_wp2_with fail
                  go_loopw [160] (fun c160 wr => ∃ k : Nat, k ≤ od.length ∧ c160 = .int .i64 k ∧ Below w10.heap.size w10 wr) (fun c160 _ => od.length - (intOf c160).toNat)
                  case atStart => exact ⟨0, by omega, rfl, Below.refl _ _⟩
                  case round =>
                    obtain ⟨k, hk, rfl, hb⟩ := hrel
                    have HB := Lib.hid hb
                    by_cases hlt : k < od.length
                    · obtain ⟨q, hq⟩ : ∃ q, od[k]? = some q := ⟨_, List.getElem?_eq_getElem hlt⟩
                      obtain ⟨r1, rfl⟩ : ∃ r, A1 = some ⟨r, 0, none⟩ := by
                        rcases HR1b.out.2.2 with ⟨_, hnil⟩ | ⟨r, h1, _⟩
                        · have h0 : od.length = 0 := by simpa using congrArg List.length hnil
                          omega
                        · exact ⟨r, h1⟩
                      obtain ⟨r2, rfl⟩ : ∃ r, A2 = some ⟨r, 0, none⟩ := by
                        rcases HR2.out.2.2 with ⟨_, hnil⟩ | ⟨r, h1, _⟩
                        · have h0 : od.length = 0 := by simpa using congrArg List.length hnil
                          omega
                        · exact ⟨r, h1⟩
                      obtain ⟨_, hrl1, hw1⟩ := (HR1b.out.same hb.size (fun g hg _ => hb.block g hg)).at rfl
                      obtain ⟨_, hrl2, hw2⟩ := (HR2.out.same hb.size (fun g hg _ => hb.block g hg)).at rfl
                      have HQ1 := Lib.hid (row_holds hw1 hq)
                      have HQ2 := Lib.hid (row_holds hw2 hq)
                      have HW1 := Lib.hid hw1
                      cases k with
                      | zero =>
                        clear hq hb hw1 hw2
                        go_upto_region 43 with fail
                        refine wt_start (S := fun W => Below wr.heap.size wr W) 54 (by kernel_rfl) ⟨by kernel_rfl, by kernel_rfl, by kernel_rfl, by decide⟩ ?_
                        intro HTK
                        have S0 := Lib.hid (show Below wr.heap.size wr wr.drew from (Below.refl _ _).drew)
                        refine wt_take (i := 0) (v := ?_) HTK.out rfl (by decide) (by kernel_rfl) (by kernel_rfl) (fun _ _ _ h => h) (by exact S0.out) (Or.inl ⟨by rfl, ?_⟩) ?_
                        rotate_left
                        · intro W hSw
                          try dsimp only at hSw
                          go_simp
                          try (with_reducible rfl)
                        try simp only [List.getElem_toArray, List.getElem_cons_zero, List.getElem_cons_succ, Act.put, List.setIfInBounds_toArray, List.set_cons_zero, List.set_cons_succ]
                        refine wt_take (i := 1) (v := ?_) HTK.out rfl (by decide) (by kernel_rfl) (by kernel_rfl) (fun _ _ _ h => h) (by exact S0.out) (Or.inl ⟨by rfl, ?_⟩) ?_
                        rotate_left
                        · intro W hSw
                          try dsimp only at hSw
                          go_simp
                          try (with_reducible rfl)
                        try simp only [List.getElem_toArray, List.getElem_cons_zero, List.getElem_cons_succ, Act.put, List.setIfInBounds_toArray, List.set_cons_zero, List.set_cons_succ]
                        refine wt_take (i := 2) (v := ?_) HTK.out rfl (by decide) (by kernel_rfl) (by kernel_rfl) (fun _ _ _ h => h) (by exact S0.out) (Or.inl ⟨by rfl, ?_⟩) ?_
                        rotate_left
                        · intro W hSw
                          try dsimp only at hSw
                          go_simp
                          try (with_reducible rfl)
                        try simp only [List.getElem_toArray, List.getElem_cons_zero, List.getElem_cons_succ, Act.put, List.setIfInBounds_toArray, List.set_cons_zero, List.set_cons_succ]
                        refine wt_take (i := 3) (v := .agg q.cells) HTK.out rfl (by decide) (by kernel_rfl) (by kernel_rfl) (fun _ _ _ h => h) (by exact S0.out) (yieldsIf_load_at (by rfl) _ _ (by rfl) _ (by rfl) q.cells _ (fun W hSw => HQ1.out.below hSw (by exact hrl1)) Try.underlying35 (by rfl) (sizeSm _)) ?_
                        try simp only [List.getElem_toArray, List.getElem_cons_zero, List.getElem_cons_succ, Act.put, List.setIfInBounds_toArray, List.set_cons_zero, List.set_cons_succ]
                        refine wt_take (i := 4) (v := ?_) HTK.out rfl (by decide) (by kernel_rfl) (by kernel_rfl) (fun _ _ _ h => h) (by exact S0.out) (Or.inl ⟨by rfl, ?_⟩) ?_
                        rotate_left
                        · intro W hSw
                          try dsimp only at hSw
                          go_simp
                          try (with_reducible rfl)
                        try simp only [List.getElem_toArray, List.getElem_cons_zero, List.getElem_cons_succ, Act.put, List.setIfInBounds_toArray, List.set_cons_zero, List.set_cons_succ]
                        refine wt_take (i := 5) (v := ?_) HTK.out rfl (by decide) (by kernel_rfl) (by kernel_rfl) (fun _ _ _ h => h) (by exact S0.out) (Or.inl ⟨by rfl, ?_⟩) ?_
                        rotate_left
                        · intro W hSw
                          try dsimp only at hSw
                          go_simp
                          try (with_reducible rfl)
                        try simp only [List.getElem_toArray, List.getElem_cons_zero, List.getElem_cons_succ, Act.put, List.setIfInBounds_toArray, List.set_cons_zero, List.set_cons_succ]
                        refine wt_take (i := 6) (v := ?_) HTK.out rfl (by decide) (by kernel_rfl) (by kernel_rfl) (fun _ _ _ h => h) (by exact S0.out) (Or.inl ⟨by rfl, ?_⟩) ?_
                        rotate_left
                        · intro W hSw
                          try dsimp only at hSw
                          go_simp
                          try (with_reducible rfl)
                        try simp only [List.getElem_toArray, List.getElem_cons_zero, List.getElem_cons_succ, Act.put, List.setIfInBounds_toArray, List.set_cons_zero, List.set_cons_succ]
                        refine wt_take (i := 7) (v := .agg q.cells) HTK.out rfl (by decide) (by kernel_rfl) (by kernel_rfl) (fun _ _ _ h => h) (by exact S0.out) (yieldsIf_load_at (by rfl) _ _ (by rfl) _ (by rfl) q.cells _ (fun W hSw => HQ2.out.below hSw (by exact hrl2)) Try.underlying35 (by rfl) (sizeSm _)) ?_
                        try simp only [List.getElem_toArray, List.getElem_cons_zero, List.getElem_cons_succ, Act.put, List.setIfInBounds_toArray, List.set_cons_zero, List.set_cons_succ]
                        refine wt_take (i := 8) (v := ?_) HTK.out rfl (by decide) (by kernel_rfl) (by kernel_rfl) (fun _ _ _ h => h) (by exact S0.out) (Or.inl ⟨by rfl, ?_⟩) ?_
                        rotate_left
                        · intro W hSw
                          try dsimp only at hSw
                          go_simp
                          try (with_reducible rfl)
                        try simp only [List.getElem_toArray, List.getElem_cons_zero, List.getElem_cons_succ, Act.put, List.setIfInBounds_toArray, List.set_cons_zero, List.set_cons_succ]
                        refine wt_take (i := 9) (v := ?_) HTK.out rfl (by decide) (by kernel_rfl) (by kernel_rfl) (fun _ _ _ h => h) (by exact S0.out) (Or.inl ⟨by rfl, ?_⟩) ?_
                        rotate_left
                        · intro W hSw
                          try dsimp only at hSw
                          go_simp
                          try (with_reducible rfl)
                        try simp only [List.getElem_toArray, List.getElem_cons_zero, List.getElem_cons_succ, Act.put, List.setIfInBounds_toArray, List.set_cons_zero, List.set_cons_succ]
                        refine wt_take (i := 10) (v := ?_) HTK.out rfl (by decide) (by kernel_rfl) (by kernel_rfl) (fun _ _ _ h => h) (by exact S0.out) (Or.inl ⟨by rfl, ?_⟩) ?_
                        rotate_left
                        · intro W hSw
                          try dsimp only at hSw
                          go_simp
                          try (with_reducible rfl)
                        try simp only [List.getElem_toArray, List.getElem_cons_zero, List.getElem_cons_succ, Act.put, List.setIfInBounds_toArray, List.set_cons_zero, List.set_cons_succ]
                        refine wt_take (i := 11) (v := ?_) HTK.out rfl (by decide) (by kernel_rfl) (by kernel_rfl) (fun _ _ _ h => h) (by exact S0.out) (Or.inl ⟨by rfl, ?_⟩) ?_
                        rotate_left
                        · intro W hSw
                          try dsimp only at hSw
                          go_simp
                          try (with_reducible rfl)
                        try simp only [List.getElem_toArray, List.getElem_cons_zero, List.getElem_cons_succ, Act.put, List.setIfInBounds_toArray, List.set_cons_zero, List.set_cons_succ]
                        refine wt_take (i := 12) (v := ?_) HTK.out rfl (by decide) (by kernel_rfl) (by kernel_rfl) (fun _ _ _ h => h) (by exact S0.out) (Or.inl ⟨by rfl, ?_⟩) ?_
                        rotate_left
                        · intro W hSw
                          try dsimp only at hSw
                          go_simp
                          try (with_reducible rfl)
                        try simp only [List.getElem_toArray, List.getElem_cons_zero, List.getElem_cons_succ, Act.put, List.setIfInBounds_toArray, List.set_cons_zero, List.set_cons_succ]
                        refine wt_take (i := 13) (v := undef) HTK.out rfl (by decide) (by kernel_rfl) (by kernel_rfl) (fun _ _ _ h => h) (by exact S0.out) (Or.inr ⟨by rfl, rfl⟩) ?_
                        try simp only [List.getElem_toArray, List.getElem_cons_zero, List.getElem_cons_succ, Act.put, List.setIfInBounds_toArray, List.set_cons_zero, List.set_cons_succ]
                        refine wt_take (i := 14) (v := undef) HTK.out rfl (by decide) (by kernel_rfl) (by kernel_rfl) (fun _ _ _ h => h) (by exact S0.out) (Or.inr ⟨by rfl, rfl⟩) ?_
                        try simp only [List.getElem_toArray, List.getElem_cons_zero, List.getElem_cons_succ, Act.put, List.setIfInBounds_toArray, List.set_cons_zero, List.set_cons_succ]
                        refine wt_take (i := 15) (v := undef) HTK.out rfl (by decide) (by kernel_rfl) (by kernel_rfl) (fun _ _ _ h => h) (by exact S0.out) (Or.inr ⟨by rfl, rfl⟩) ?_
                        try simp only [List.getElem_toArray, List.getElem_cons_zero, List.getElem_cons_succ, Act.put, List.setIfInBounds_toArray, List.set_cons_zero, List.set_cons_succ]
                        refine wt_take (i := 16) (v := undef) HTK.out rfl (by decide) (by kernel_rfl) (by kernel_rfl) (fun _ _ _ h => h) (by exact S0.out) (Or.inr ⟨by rfl, rfl⟩) ?_
                        try simp only [List.getElem_toArray, List.getElem_cons_zero, List.getElem_cons_succ, Act.put, List.setIfInBounds_toArray, List.set_cons_zero, List.set_cons_succ]
                        refine wt_take (i := 17) (v := undef) HTK.out rfl (by decide) (by kernel_rfl) (by kernel_rfl) (fun _ _ _ h => h) (by exact S0.out) (Or.inr ⟨by rfl, rfl⟩) ?_
                        try simp only [List.getElem_toArray, List.getElem_cons_zero, List.getElem_cons_succ, Act.put, List.setIfInBounds_toArray, List.set_cons_zero, List.set_cons_succ]
                        refine wt_take (i := 18) (v := undef) HTK.out rfl (by decide) (by kernel_rfl) (by kernel_rfl) (fun _ _ _ h => h) (by exact S0.out) (Or.inr ⟨by rfl, rfl⟩) ?_
                        try simp only [List.getElem_toArray, List.getElem_cons_zero, List.getElem_cons_succ, Act.put, List.setIfInBounds_toArray, List.set_cons_zero, List.set_cons_succ]
                        refine wt_take (i := 19) (v := undef) HTK.out rfl (by decide) (by kernel_rfl) (by kernel_rfl) (fun _ _ _ h => h) (by exact S0.out) (Or.inr ⟨by rfl, rfl⟩) ?_
                        try simp only [List.getElem_toArray, List.getElem_cons_zero, List.getElem_cons_succ, Act.put, List.setIfInBounds_toArray, List.set_cons_zero, List.set_cons_succ]
                        refine wt_take (i := 20) (v := undef) HTK.out rfl (by decide) (by kernel_rfl) (by kernel_rfl) (fun _ _ _ h => h) (by exact S0.out) (Or.inr ⟨by rfl, rfl⟩) ?_
                        try simp only [List.getElem_toArray, List.getElem_cons_zero, List.getElem_cons_succ, Act.put, List.setIfInBounds_toArray, List.set_cons_zero, List.set_cons_succ]
                        refine wt_take (i := 21) (v := undef) HTK.out rfl (by decide) (by kernel_rfl) (by kernel_rfl) (fun _ _ _ h => h) (by exact S0.out) (Or.inr ⟨by rfl, rfl⟩) ?_
                        try simp only [List.getElem_toArray, List.getElem_cons_zero, List.getElem_cons_succ, Act.put, List.setIfInBounds_toArray, List.set_cons_zero, List.set_cons_succ]
                        refine wt_take (i := 22) (v := undef) HTK.out rfl (by decide) (by kernel_rfl) (by kernel_rfl) (fun _ _ _ h => h) (by exact S0.out) (Or.inr ⟨by rfl, rfl⟩) ?_
                        try simp only [List.getElem_toArray, List.getElem_cons_zero, List.getElem_cons_succ, Act.put, List.setIfInBounds_toArray, List.set_cons_zero, List.set_cons_succ]
                        refine wt_take (i := 23) (v := undef) HTK.out rfl (by decide) (by kernel_rfl) (by kernel_rfl) (fun _ _ _ h => h) (by exact S0.out) (Or.inr ⟨by rfl, rfl⟩) ?_
                        try simp only [List.getElem_toArray, List.getElem_cons_zero, List.getElem_cons_succ, Act.put, List.setIfInBounds_toArray, List.set_cons_zero, List.set_cons_succ]
                        refine wt_take (i := 24) (v := undef) HTK.out rfl (by decide) (by kernel_rfl) (by kernel_rfl) (fun _ _ _ h => h) (by exact S0.out) (Or.inr ⟨by rfl, rfl⟩) ?_
                        try simp only [List.getElem_toArray, List.getElem_cons_zero, List.getElem_cons_succ, Act.put, List.setIfInBounds_toArray, List.set_cons_zero, List.set_cons_succ]
                        refine wt_take (i := 25) (v := undef) HTK.out rfl (by decide) (by kernel_rfl) (by kernel_rfl) (fun _ _ _ h => h) (by exact S0.out) (Or.inr ⟨by rfl, rfl⟩) ?_
                        try simp only [List.getElem_toArray, List.getElem_cons_zero, List.getElem_cons_succ, Act.put, List.setIfInBounds_toArray, List.set_cons_zero, List.set_cons_succ]
                        refine wt_take (i := 26) (v := undef) HTK.out rfl (by decide) (by kernel_rfl) (by kernel_rfl) (fun _ _ _ h => h) (by exact S0.out) (Or.inr ⟨by rfl, rfl⟩) ?_
                        try simp only [List.getElem_toArray, List.getElem_cons_zero, List.getElem_cons_succ, Act.put, List.setIfInBounds_toArray, List.set_cons_zero, List.set_cons_succ]
                        refine wt_take (i := 27) (v := undef) HTK.out rfl (by decide) (by kernel_rfl) (by kernel_rfl) (fun _ _ _ h => h) (by exact S0.out) (Or.inr ⟨by rfl, rfl⟩) ?_
                        try simp only [List.getElem_toArray, List.getElem_cons_zero, List.getElem_cons_succ, Act.put, List.setIfInBounds_toArray, List.set_cons_zero, List.set_cons_succ]
                        refine wt_take (i := 28) (v := undef) HTK.out rfl (by decide) (by kernel_rfl) (by kernel_rfl) (fun _ _ _ h => h) (by exact S0.out) (Or.inr ⟨by rfl, rfl⟩) ?_
                        try simp only [List.getElem_toArray, List.getElem_cons_zero, List.getElem_cons_succ, Act.put, List.setIfInBounds_toArray, List.set_cons_zero, List.set_cons_succ]
                        refine wt_take (i := 29) (v := undef) HTK.out rfl (by decide) (by kernel_rfl) (by kernel_rfl) (fun _ _ _ h => h) (by exact S0.out) (Or.inr ⟨by rfl, rfl⟩) ?_
                        try simp only [List.getElem_toArray, List.getElem_cons_zero, List.getElem_cons_succ, Act.put, List.setIfInBounds_toArray, List.set_cons_zero, List.set_cons_succ]
                        refine wt_take (i := 30) (v := undef) HTK.out rfl (by decide) (by kernel_rfl) (by kernel_rfl) (fun _ _ _ h => h) (by exact S0.out) (Or.inr ⟨by rfl, rfl⟩) ?_
                        try simp only [List.getElem_toArray, List.getElem_cons_zero, List.getElem_cons_succ, Act.put, List.setIfInBounds_toArray, List.set_cons_zero, List.set_cons_succ]
                        refine wt_take (i := 31) (v := undef) HTK.out rfl (by decide) (by kernel_rfl) (by kernel_rfl) (fun _ _ _ h => h) (by exact S0.out) (Or.inr ⟨by rfl, rfl⟩) ?_
                        try simp only [List.getElem_toArray, List.getElem_cons_zero, List.getElem_cons_succ, Act.put, List.setIfInBounds_toArray, List.set_cons_zero, List.set_cons_succ]
                        refine wt_take (i := 32) (v := undef) HTK.out rfl (by decide) (by kernel_rfl) (by kernel_rfl) (fun _ _ _ h => h) (by exact S0.out) (Or.inr ⟨by rfl, rfl⟩) ?_
                        try simp only [List.getElem_toArray, List.getElem_cons_zero, List.getElem_cons_succ, Act.put, List.setIfInBounds_toArray, List.set_cons_zero, List.set_cons_succ]
                        refine wt_take (i := 33) (v := undef) HTK.out rfl (by decide) (by kernel_rfl) (by kernel_rfl) (fun _ _ _ h => h) (by exact S0.out) (Or.inr ⟨by rfl, rfl⟩) ?_
                        try simp only [List.getElem_toArray, List.getElem_cons_zero, List.getElem_cons_succ, Act.put, List.setIfInBounds_toArray, List.set_cons_zero, List.set_cons_succ]
                        refine wt_take (i := 34) (v := undef) HTK.out rfl (by decide) (by kernel_rfl) (by kernel_rfl) (fun _ _ _ h => h) (by exact S0.out) (Or.inr ⟨by rfl, rfl⟩) ?_
                        try simp only [List.getElem_toArray, List.getElem_cons_zero, List.getElem_cons_succ, Act.put, List.setIfInBounds_toArray, List.set_cons_zero, List.set_cons_succ]
                        refine wt_take (i := 35) (v := undef) HTK.out rfl (by decide) (by kernel_rfl) (by kernel_rfl) (fun _ _ _ h => h) (by exact S0.out) (Or.inr ⟨by rfl, rfl⟩) ?_
                        try simp only [List.getElem_toArray, List.getElem_cons_zero, List.getElem_cons_succ, Act.put, List.setIfInBounds_toArray, List.set_cons_zero, List.set_cons_succ]
                        refine wt_take (i := 36) (v := undef) HTK.out rfl (by decide) (by kernel_rfl) (by kernel_rfl) (fun _ _ _ h => h) (by exact S0.out) (Or.inr ⟨by rfl, rfl⟩) ?_
                        try simp only [List.getElem_toArray, List.getElem_cons_zero, List.getElem_cons_succ, Act.put, List.setIfInBounds_toArray, List.set_cons_zero, List.set_cons_succ]
                        refine wt_take (i := 37) (v := undef) HTK.out rfl (by decide) (by kernel_rfl) (by kernel_rfl) (fun _ _ _ h => h) (by exact S0.out) (Or.inr ⟨by rfl, rfl⟩) ?_
                        try simp only [List.getElem_toArray, List.getElem_cons_zero, List.getElem_cons_succ, Act.put, List.setIfInBounds_toArray, List.set_cons_zero, List.set_cons_succ]
                        refine wt_take (i := 38) (v := undef) HTK.out rfl (by decide) (by kernel_rfl) (by kernel_rfl) (fun _ _ _ h => h) (by exact S0.out) (Or.inr ⟨by rfl, rfl⟩) ?_
                        try simp only [List.getElem_toArray, List.getElem_cons_zero, List.getElem_cons_succ, Act.put, List.setIfInBounds_toArray, List.set_cons_zero, List.set_cons_succ]
                        refine wt_take (i := 39) (v := undef) HTK.out rfl (by decide) (by kernel_rfl) (by kernel_rfl) (fun _ _ _ h => h) (by exact S0.out) (Or.inr ⟨by rfl, rfl⟩) ?_
                        try simp only [List.getElem_toArray, List.getElem_cons_zero, List.getElem_cons_succ, Act.put, List.setIfInBounds_toArray, List.set_cons_zero, List.set_cons_succ]
                        refine wt_take (i := 40) (v := undef) HTK.out rfl (by decide) (by kernel_rfl) (by kernel_rfl) (fun _ _ _ h => h) (by exact S0.out) (Or.inr ⟨by rfl, rfl⟩) ?_
                        try simp only [List.getElem_toArray, List.getElem_cons_zero, List.getElem_cons_succ, Act.put, List.setIfInBounds_toArray, List.set_cons_zero, List.set_cons_succ]
                        refine wt_take (i := 41) (v := undef) HTK.out rfl (by decide) (by kernel_rfl) (by kernel_rfl) (fun _ _ _ h => h) (by exact S0.out) (Or.inr ⟨by rfl, rfl⟩) ?_
                        try simp only [List.getElem_toArray, List.getElem_cons_zero, List.getElem_cons_succ, Act.put, List.setIfInBounds_toArray, List.set_cons_zero, List.set_cons_succ]
                        refine wt_take (i := 42) (v := undef) HTK.out rfl (by decide) (by kernel_rfl) (by kernel_rfl) (fun _ _ _ h => h) (by exact S0.out) (Or.inr ⟨by rfl, rfl⟩) ?_
                        try simp only [List.getElem_toArray, List.getElem_cons_zero, List.getElem_cons_succ, Act.put, List.setIfInBounds_toArray, List.set_cons_zero, List.set_cons_succ]
                        refine wt_take (i := 43) (v := undef) HTK.out rfl (by decide) (by kernel_rfl) (by kernel_rfl) (fun _ _ _ h => h) (by exact S0.out) (Or.inr ⟨by rfl, rfl⟩) ?_
                        try simp only [List.getElem_toArray, List.getElem_cons_zero, List.getElem_cons_succ, Act.put, List.setIfInBounds_toArray, List.set_cons_zero, List.set_cons_succ]
                        refine wt_take (i := 44) (v := undef) HTK.out rfl (by decide) (by kernel_rfl) (by kernel_rfl) (fun _ _ _ h => h) (by exact S0.out) (Or.inr ⟨by rfl, rfl⟩) ?_
                        try simp only [List.getElem_toArray, List.getElem_cons_zero, List.getElem_cons_succ, Act.put, List.setIfInBounds_toArray, List.set_cons_zero, List.set_cons_succ]
                        refine wt_take (i := 45) (v := undef) HTK.out rfl (by decide) (by kernel_rfl) (by kernel_rfl) (fun _ _ _ h => h) (by exact S0.out) (Or.inr ⟨by rfl, rfl⟩) ?_
                        try simp only [List.getElem_toArray, List.getElem_cons_zero, List.getElem_cons_succ, Act.put, List.setIfInBounds_toArray, List.set_cons_zero, List.set_cons_succ]
                        refine wt_take (i := 46) (v := undef) HTK.out rfl (by decide) (by kernel_rfl) (by kernel_rfl) (fun _ _ _ h => h) (by exact S0.out) (Or.inr ⟨by rfl, rfl⟩) ?_
                        try simp only [List.getElem_toArray, List.getElem_cons_zero, List.getElem_cons_succ, Act.put, List.setIfInBounds_toArray, List.set_cons_zero, List.set_cons_succ]
                        refine wt_take (i := 47) (v := undef) HTK.out rfl (by decide) (by kernel_rfl) (by kernel_rfl) (fun _ _ _ h => h) (by exact S0.out) (Or.inr ⟨by rfl, rfl⟩) ?_
                        try simp only [List.getElem_toArray, List.getElem_cons_zero, List.getElem_cons_succ, Act.put, List.setIfInBounds_toArray, List.set_cons_zero, List.set_cons_succ]
                        refine wt_take (i := 48) (v := undef) HTK.out rfl (by decide) (by kernel_rfl) (by kernel_rfl) (fun _ _ _ h => h) (by exact S0.out) (Or.inr ⟨by rfl, rfl⟩) ?_
                        try simp only [List.getElem_toArray, List.getElem_cons_zero, List.getElem_cons_succ, Act.put, List.setIfInBounds_toArray, List.set_cons_zero, List.set_cons_succ]
                        refine wt_take (i := 49) (v := undef) HTK.out rfl (by decide) (by kernel_rfl) (by kernel_rfl) (fun _ _ _ h => h) (by exact S0.out) (Or.inr ⟨by rfl, rfl⟩) ?_
                        try simp only [List.getElem_toArray, List.getElem_cons_zero, List.getElem_cons_succ, Act.put, List.setIfInBounds_toArray, List.set_cons_zero, List.set_cons_succ]
                        refine wt_take (i := 50) (v := undef) HTK.out rfl (by decide) (by kernel_rfl) (by kernel_rfl) (fun _ _ _ h => h) (by exact S0.out) (Or.inr ⟨by rfl, rfl⟩) ?_
                        try simp only [List.getElem_toArray, List.getElem_cons_zero, List.getElem_cons_succ, Act.put, List.setIfInBounds_toArray, List.set_cons_zero, List.set_cons_succ]
                        refine wt_take (i := 51) (v := undef) HTK.out rfl (by decide) (by kernel_rfl) (by kernel_rfl) (fun _ _ _ h => h) (by exact S0.out) (Or.inr ⟨by rfl, rfl⟩) ?_
                        try simp only [List.getElem_toArray, List.getElem_cons_zero, List.getElem_cons_succ, Act.put, List.setIfInBounds_toArray, List.set_cons_zero, List.set_cons_succ]
                        refine wt_take (i := 52) (v := undef) HTK.out rfl (by decide) (by kernel_rfl) (by kernel_rfl) (fun _ _ _ h => h) (by exact S0.out) (Or.inr ⟨by rfl, rfl⟩) ?_
                        try simp only [List.getElem_toArray, List.getElem_cons_zero, List.getElem_cons_succ, Act.put, List.setIfInBounds_toArray, List.set_cons_zero, List.set_cons_succ]
                        refine wt_take (i := 53) (v := ?_) HTK.out rfl (by decide) (by kernel_rfl) (by kernel_rfl) (fun _ _ _ h => h) (by exact S0.out) (Or.inl ⟨by rfl, ?_⟩) ?_
                        rotate_left
                        · intro W hSw
                          try dsimp only at hSw
                          go_simp
                          try (with_reducible rfl)
                        try simp only [List.getElem_toArray, List.getElem_cons_zero, List.getElem_cons_succ, Act.put, List.setIfInBounds_toArray, List.set_cons_zero, List.set_cons_succ]
                        refine wt_last (k := 54) (by kernel_rfl) (by kernel_rfl) (by decide) rfl (fun K hK => ?_)
                        go_simp
                        refine hK.out _ _ ?_
                        clear hK K
                        try simp only [List.getElem_toArray, List.getElem_cons_zero, List.getElem_cons_succ, Act.put, List.setIfInBounds_toArray, List.set_cons_zero, List.set_cons_succ]
                        go_wp2_with fail
                        exact ⟨⟨0 + 1, by omega, by go_num, HB.out.trans (S0.out.mono HB.out.size)⟩, by simp [intOf]; omega⟩
                      | succ m =>
                        obtain ⟨pv, hpv⟩ : ∃ pv, od[m]? = some pv := ⟨_, List.getElem?_eq_getElem (by omega)⟩
                        obtain ⟨hj1, hj2⟩ := od_next HSX.out HNO.out hpv hq
                        have HPV := Lib.hid (row_holds hw1 hpv)
                        have p7 : wr.cell? ⟨r1, m * 10 + 7, none⟩ = some (.int .i64 pv.joined) := HPV.out.cellm (j := 7) rfl
                        have q7 : wr.cell? ⟨r1, (m + 1) * 10 + 7, none⟩ = some (.int .i64 q.joined) := HQ1.out.cellm (j := 7) rfl
                        have p0 : wr.cell? ⟨r1, m * 10, none⟩ = some (.string pv.room) := HPV.out.cellm (j := 0) rfl
                        have q0 : wr.cell? ⟨r1, (m + 1) * 10, none⟩ = some (.string q.room) := HQ1.out.cellm (j := 0) rfl
                        have hdl : decide (pv.joined < q.joined) = false := decide_eq_false hj1
                        have hsub : ((m + 1 : Nat) : Int) - 1 = (m : Int) := by omega
                        have hsub2 : (m : Int) + 1 - 1 = (m : Int) := by omega
                        have hw0 : (0 : Int) ≤ (m : Int) + 1 := by omega
                        have hwm : IntKind.i64.wrap (m : Int) = (m : Int) := by rw [IntKind.wrap_i64]; omega
                        have hm0 : (0 : Int) ≤ (m : Int) := by omega
                        have hm1 : (m : Int) < (od.length : Int) := by omega
                        have hgt : decide (((m + 1 : Nat) : Int) > 0) = true := decide_eq_true (by omega)
                        have hgt2 : decide ((0 : Int) < (m : Int) + 1) = true := decide_eq_true (by omega)
                        clear hq hb hw1 hw2 hpv hj1
                        by_cases hje : pv.joined = q.joined
                        · have hjb : (pv.joined == q.joined) = true := by simp [hje]
                          have hbl := hj2 hje
                          have hbl2 := less_nsym hbl
                          have hbe : (pv.room.toList == q.room.toList) = false := by
                            rw [beq_eq_false_iff_ne]
                            intro e
                            rw [e, less_irr] at hbl
                            cases hbl
                          have hbe2 : (q.room.toList == pv.room.toList) = false := by
                            rw [beq_eq_false_iff_ne]
                            intro e
                            rw [e, less_irr] at hbl
                            cases hbl
                          clear hj2 hje
                          go_upto_region 43 with fail
                          refine wt_start (S := fun W => Below wr.heap.size wr W) 54 (by kernel_rfl) ⟨by kernel_rfl, by kernel_rfl, by kernel_rfl, by decide⟩ ?_
                          intro HTK
                          have S0 := Lib.hid (show Below wr.heap.size wr wr.drew from (Below.refl _ _).drew)
                          refine wt_take (i := 0) (v := ?_) HTK.out rfl (by decide) (by kernel_rfl) (by kernel_rfl) (fun _ _ _ h => h) (by exact S0.out) (Or.inl ⟨by rfl, ?_⟩) ?_
                          rotate_left
                          · intro W hSw
                            try dsimp only at hSw
                            go_simp
                            try (with_reducible rfl)
                          try simp only [List.getElem_toArray, List.getElem_cons_zero, List.getElem_cons_succ, Act.put, List.setIfInBounds_toArray, List.set_cons_zero, List.set_cons_succ]
                          refine wt_take (i := 1) (v := ?_) HTK.out rfl (by decide) (by kernel_rfl) (by kernel_rfl) (fun _ _ _ h => h) (by exact S0.out) (Or.inl ⟨by rfl, ?_⟩) ?_
                          rotate_left
                          · intro W hSw
                            try dsimp only at hSw
                            go_simp
                            try (with_reducible rfl)
                          try simp only [List.getElem_toArray, List.getElem_cons_zero, List.getElem_cons_succ, Act.put, List.setIfInBounds_toArray, List.set_cons_zero, List.set_cons_succ]
                          refine wt_take (i := 2) (v := ?_) HTK.out rfl (by decide) (by kernel_rfl) (by kernel_rfl) (fun _ _ _ h => h) (by exact S0.out) (Or.inl ⟨by rfl, ?_⟩) ?_
                          rotate_left
                          · intro W hSw
                            try dsimp only at hSw
                            go_simp
                            try (with_reducible rfl)
                          try simp only [List.getElem_toArray, List.getElem_cons_zero, List.getElem_cons_succ, Act.put, List.setIfInBounds_toArray, List.set_cons_zero, List.set_cons_succ]
                          refine wt_take (i := 3) (v := .agg q.cells) HTK.out rfl (by decide) (by kernel_rfl) (by kernel_rfl) (fun _ _ _ h => h) (by exact S0.out) (yieldsIf_load_at (by rfl) _ _ (by rfl) _ (by rfl) q.cells _ (fun W hSw => HQ1.out.below hSw (by exact hrl1)) Try.underlying35 (by rfl) (sizeSm _)) ?_
                          try simp only [List.getElem_toArray, List.getElem_cons_zero, List.getElem_cons_succ, Act.put, List.setIfInBounds_toArray, List.set_cons_zero, List.set_cons_succ]
                          refine wt_take (i := 4) (v := ?_) HTK.out rfl (by decide) (by kernel_rfl) (by kernel_rfl) (fun _ _ _ h => h) (by exact S0.out) (Or.inl ⟨by rfl, ?_⟩) ?_
                          rotate_left
                          · intro W hSw
                            try dsimp only at hSw
                            go_simp
                            try (with_reducible rfl)
                          try simp only [List.getElem_toArray, List.getElem_cons_zero, List.getElem_cons_succ, Act.put, List.setIfInBounds_toArray, List.set_cons_zero, List.set_cons_succ]
                          refine wt_take (i := 5) (v := ?_) HTK.out rfl (by decide) (by kernel_rfl) (by kernel_rfl) (fun _ _ _ h => h) (by exact S0.out) (Or.inl ⟨by rfl, ?_⟩) ?_
                          rotate_left
                          · intro W hSw
                            try dsimp only at hSw
                            go_simp
                            try (with_reducible rfl)
                          try simp only [List.getElem_toArray, List.getElem_cons_zero, List.getElem_cons_succ, Act.put, List.setIfInBounds_toArray, List.set_cons_zero, List.set_cons_succ]
                          refine wt_take (i := 6) (v := ?_) HTK.out rfl (by decide) (by kernel_rfl) (by kernel_rfl) (fun _ _ _ h => h) (by exact S0.out) (Or.inl ⟨by rfl, ?_⟩) ?_
                          rotate_left
                          · intro W hSw
                            try dsimp only at hSw
                            go_simp
                            try (with_reducible rfl)
                          try simp only [List.getElem_toArray, List.getElem_cons_zero, List.getElem_cons_succ, Act.put, List.setIfInBounds_toArray, List.set_cons_zero, List.set_cons_succ]
                          refine wt_take (i := 7) (v := .agg q.cells) HTK.out rfl (by decide) (by kernel_rfl) (by kernel_rfl) (fun _ _ _ h => h) (by exact S0.out) (yieldsIf_load_at (by rfl) _ _ (by rfl) _ (by rfl) q.cells _ (fun W hSw => HQ2.out.below hSw (by exact hrl2)) Try.underlying35 (by rfl) (sizeSm _)) ?_
                          try simp only [List.getElem_toArray, List.getElem_cons_zero, List.getElem_cons_succ, Act.put, List.setIfInBounds_toArray, List.set_cons_zero, List.set_cons_succ]
                          refine wt_take (i := 8) (v := ?_) HTK.out rfl (by decide) (by kernel_rfl) (by kernel_rfl) (fun _ _ _ h => h) (by exact S0.out) (Or.inl ⟨by rfl, ?_⟩) ?_
                          rotate_left
                          · intro W hSw
                            try dsimp only at hSw
                            go_simp
                            try (with_reducible rfl)
                          try simp only [List.getElem_toArray, List.getElem_cons_zero, List.getElem_cons_succ, Act.put, List.setIfInBounds_toArray, List.set_cons_zero, List.set_cons_succ]
                          refine wt_take (i := 9) (v := ?_) HTK.out rfl (by decide) (by kernel_rfl) (by kernel_rfl) (fun _ _ _ h => h) (by exact S0.out) (Or.inl ⟨by rfl, ?_⟩) ?_
                          rotate_left
                          · intro W hSw
                            try dsimp only at hSw
                            go_simp
                            try (with_reducible rfl)
                          try simp only [List.getElem_toArray, List.getElem_cons_zero, List.getElem_cons_succ, Act.put, List.setIfInBounds_toArray, List.set_cons_zero, List.set_cons_succ]
                          refine wt_take (i := 10) (v := ?_) HTK.out rfl (by decide) (by kernel_rfl) (by kernel_rfl) (fun _ _ _ h => h) (by exact S0.out) (Or.inl ⟨by rfl, ?_⟩) ?_
                          rotate_left
                          · intro W hSw
                            try dsimp only at hSw
                            go_simp
                            try (with_reducible rfl)
                          try simp only [List.getElem_toArray, List.getElem_cons_zero, List.getElem_cons_succ, Act.put, List.setIfInBounds_toArray, List.set_cons_zero, List.set_cons_succ]
                          refine wt_take (i := 11) (v := ?_) HTK.out rfl (by decide) (by kernel_rfl) (by kernel_rfl) (fun _ _ _ h => h) (by exact S0.out) (Or.inl ⟨by rfl, ?_⟩) ?_
                          rotate_left
                          · intro W hSw
                            try dsimp only at hSw
                            go_simp
                            try (with_reducible rfl)
                          try simp only [List.getElem_toArray, List.getElem_cons_zero, List.getElem_cons_succ, Act.put, List.setIfInBounds_toArray, List.set_cons_zero, List.set_cons_succ]
                          refine wt_take (i := 12) (v := ?_) HTK.out rfl (by decide) (by kernel_rfl) (by kernel_rfl) (fun _ _ _ h => h) (by exact S0.out) (Or.inl ⟨by rfl, ?_⟩) ?_
                          rotate_left
                          · intro W hSw
                            try dsimp only at hSw
                            go_simp
                            try (with_reducible rfl)
                          try simp only [List.getElem_toArray, List.getElem_cons_zero, List.getElem_cons_succ, Act.put, List.setIfInBounds_toArray, List.set_cons_zero, List.set_cons_succ]
                          refine wt_take (i := 13) (v := ?_) HTK.out rfl (by decide) (by kernel_rfl) (by kernel_rfl) (fun _ _ _ h => h) (by exact S0.out) (Or.inl ⟨by rfl, ?_⟩) ?_
                          rotate_left
                          · intro W hSw
                            try dsimp only at hSw
                            go_simp
                            try (with_reducible rfl)
                          try simp only [List.getElem_toArray, List.getElem_cons_zero, List.getElem_cons_succ, Act.put, List.setIfInBounds_toArray, List.set_cons_zero, List.set_cons_succ]
                          refine wt_take (i := 14) (v := ?_) HTK.out rfl (by decide) (by kernel_rfl) (by kernel_rfl) (fun _ _ _ h => h) (by exact S0.out) (Or.inl ⟨by rfl, ?_⟩) ?_
                          rotate_left
                          · intro W hSw
                            try dsimp only at hSw
                            go_simp
                            try (with_reducible rfl)
                          try simp only [List.getElem_toArray, List.getElem_cons_zero, List.getElem_cons_succ, Act.put, List.setIfInBounds_toArray, List.set_cons_zero, List.set_cons_succ]
                          refine wt_take (i := 15) (v := ?_) HTK.out rfl (by decide) (by kernel_rfl) (by kernel_rfl) (fun _ _ _ h => h) (by exact S0.out) (Or.inl ⟨by rfl, ?_⟩) ?_
                          rotate_left
                          · intro W hSw
                            try dsimp only at hSw
                            go_simp
                            try (with_reducible rfl)
                          try simp only [List.getElem_toArray, List.getElem_cons_zero, List.getElem_cons_succ, Act.put, List.setIfInBounds_toArray, List.set_cons_zero, List.set_cons_succ]
                          refine wt_take (i := 16) (v := ?_) HTK.out rfl (by decide) (by kernel_rfl) (by kernel_rfl) (fun _ _ _ h => h) (by exact S0.out) (Or.inl ⟨by rfl, ?_⟩) ?_
                          rotate_left
                          · intro W hSw
                            try dsimp only at hSw
                            go_simp
                            try (with_reducible rfl)
                          try simp only [List.getElem_toArray, List.getElem_cons_zero, List.getElem_cons_succ, Act.put, List.setIfInBounds_toArray, List.set_cons_zero, List.set_cons_succ]
                          refine wt_take (i := 17) (v := ?_) HTK.out rfl (by decide) (by kernel_rfl) (by kernel_rfl) (fun _ _ _ h => h) (by exact S0.out) (Or.inl ⟨by rfl, ?_⟩) ?_
                          rotate_left
                          · intro W hSw
                            try dsimp only at hSw
                            go_simp
                            try (with_reducible rfl)
                          try simp only [List.getElem_toArray, List.getElem_cons_zero, List.getElem_cons_succ, Act.put, List.setIfInBounds_toArray, List.set_cons_zero, List.set_cons_succ]
                          refine wt_take (i := 18) (v := ?_) HTK.out rfl (by decide) (by kernel_rfl) (by kernel_rfl) (fun _ _ _ h => h) (by exact S0.out) (Or.inl ⟨by rfl, ?_⟩) ?_
                          rotate_left
                          · intro W hSw
                            try dsimp only at hSw
                            have q9 := (hSw.cell (p := ⟨r1, m * 10 + 7, none⟩) (by exact hrl1)).trans p7
                            go_simp
                            try (with_reducible rfl)
                          try simp only [List.getElem_toArray, List.getElem_cons_zero, List.getElem_cons_succ, Act.put, List.setIfInBounds_toArray, List.set_cons_zero, List.set_cons_succ]
                          refine wt_take (i := 19) (v := ?_) HTK.out rfl (by decide) (by kernel_rfl) (by kernel_rfl) (fun _ _ _ h => h) (by exact S0.out) (Or.inl ⟨by rfl, ?_⟩) ?_
                          rotate_left
                          · intro W hSw
                            try dsimp only at hSw
                            go_simp
                            try (with_reducible rfl)
                          try simp only [List.getElem_toArray, List.getElem_cons_zero, List.getElem_cons_succ, Act.put, List.setIfInBounds_toArray, List.set_cons_zero, List.set_cons_succ]
                          refine wt_take (i := 20) (v := ?_) HTK.out rfl (by decide) (by kernel_rfl) (by kernel_rfl) (fun _ _ _ h => h) (by exact S0.out) (Or.inl ⟨by rfl, ?_⟩) ?_
                          rotate_left
                          · intro W hSw
                            try dsimp only at hSw
                            go_simp
                            try (with_reducible rfl)
                          try simp only [List.getElem_toArray, List.getElem_cons_zero, List.getElem_cons_succ, Act.put, List.setIfInBounds_toArray, List.set_cons_zero, List.set_cons_succ]
                          refine wt_take (i := 21) (v := ?_) HTK.out rfl (by decide) (by kernel_rfl) (by kernel_rfl) (fun _ _ _ h => h) (by exact S0.out) (Or.inl ⟨by rfl, ?_⟩) ?_
                          rotate_left
                          · intro W hSw
                            try dsimp only at hSw
                            go_simp
                            try (with_reducible rfl)
                          try simp only [List.getElem_toArray, List.getElem_cons_zero, List.getElem_cons_succ, Act.put, List.setIfInBounds_toArray, List.set_cons_zero, List.set_cons_succ]
                          refine wt_take (i := 22) (v := ?_) HTK.out rfl (by decide) (by kernel_rfl) (by kernel_rfl) (fun _ _ _ h => h) (by exact S0.out) (Or.inl ⟨by rfl, ?_⟩) ?_
                          rotate_left
                          · intro W hSw
                            try dsimp only at hSw
                            go_simp
                            try (with_reducible rfl)
                          try simp only [List.getElem_toArray, List.getElem_cons_zero, List.getElem_cons_succ, Act.put, List.setIfInBounds_toArray, List.set_cons_zero, List.set_cons_succ]
                          refine wt_take (i := 23) (v := ?_) HTK.out rfl (by decide) (by kernel_rfl) (by kernel_rfl) (fun _ _ _ h => h) (by exact S0.out) (Or.inl ⟨by rfl, ?_⟩) ?_
                          rotate_left
                          · intro W hSw
                            try dsimp only at hSw
                            have q9 := (hSw.cell (p := ⟨r1, (m + 1) * 10 + 7, none⟩) (by exact hrl1)).trans q7
                            go_simp
                            try (with_reducible rfl)
                          try simp only [List.getElem_toArray, List.getElem_cons_zero, List.getElem_cons_succ, Act.put, List.setIfInBounds_toArray, List.set_cons_zero, List.set_cons_succ]
                          refine wt_take (i := 24) (v := ?_) HTK.out rfl (by decide) (by kernel_rfl) (by kernel_rfl) (fun _ _ _ h => h) (by exact S0.out) (Or.inl ⟨by rfl, ?_⟩) ?_
                          rotate_left
                          · intro W hSw
                            try dsimp only at hSw
                            go_simp
                            try (with_reducible rfl)
                          try simp only [List.getElem_toArray, List.getElem_cons_zero, List.getElem_cons_succ, Act.put, List.setIfInBounds_toArray, List.set_cons_zero, List.set_cons_succ]
                          refine wt_take (i := 25) (v := ?_) HTK.out rfl (by decide) (by kernel_rfl) (by kernel_rfl) (fun _ _ _ h => h) (by exact S0.out) (Or.inl ⟨by rfl, ?_⟩) ?_
                          rotate_left
                          · intro W hSw
                            try dsimp only at hSw
                            go_simp
                            try (with_reducible rfl)
                          try simp only [List.getElem_toArray, List.getElem_cons_zero, List.getElem_cons_succ, Act.put, List.setIfInBounds_toArray, List.set_cons_zero, List.set_cons_succ]
                          refine wt_take (i := 26) (v := ?_) HTK.out rfl (by decide) (by kernel_rfl) (by kernel_rfl) (fun _ _ _ h => h) (by exact S0.out) (Or.inl ⟨by rfl, ?_⟩) ?_
                          rotate_left
                          · intro W hSw
                            try dsimp only at hSw
                            go_simp
                            try (with_reducible rfl)
                          try simp only [List.getElem_toArray, List.getElem_cons_zero, List.getElem_cons_succ, Act.put, List.setIfInBounds_toArray, List.set_cons_zero, List.set_cons_succ]
                          refine wt_take (i := 27) (v := ?_) HTK.out rfl (by decide) (by kernel_rfl) (by kernel_rfl) (fun _ _ _ h => h) (by exact S0.out) (Or.inl ⟨by rfl, ?_⟩) ?_
                          rotate_left
                          · intro W hSw
                            try dsimp only at hSw
                            go_simp
                            try (with_reducible rfl)
                          try simp only [List.getElem_toArray, List.getElem_cons_zero, List.getElem_cons_succ, Act.put, List.setIfInBounds_toArray, List.set_cons_zero, List.set_cons_succ]
                          refine wt_take (i := 28) (v := ?_) HTK.out rfl (by decide) (by kernel_rfl) (by kernel_rfl) (fun _ _ _ h => h) (by exact S0.out) (Or.inl ⟨by rfl, ?_⟩) ?_
                          rotate_left
                          · intro W hSw
                            try dsimp only at hSw
                            go_simp
                            try (with_reducible rfl)
                          try simp only [List.getElem_toArray, List.getElem_cons_zero, List.getElem_cons_succ, Act.put, List.setIfInBounds_toArray, List.set_cons_zero, List.set_cons_succ]
                          refine wt_take (i := 29) (v := ?_) HTK.out rfl (by decide) (by kernel_rfl) (by kernel_rfl) (fun _ _ _ h => h) (by exact S0.out) (Or.inl ⟨by rfl, ?_⟩) ?_
                          rotate_left
                          · intro W hSw
                            try dsimp only at hSw
                            go_simp
                            try (with_reducible rfl)
                          try simp only [List.getElem_toArray, List.getElem_cons_zero, List.getElem_cons_succ, Act.put, List.setIfInBounds_toArray, List.set_cons_zero, List.set_cons_succ]
                          refine wt_take (i := 30) (v := ?_) HTK.out rfl (by decide) (by kernel_rfl) (by kernel_rfl) (fun _ _ _ h => h) (by exact S0.out) (Or.inl ⟨by rfl, ?_⟩) ?_
                          rotate_left
                          · intro W hSw
                            try dsimp only at hSw
                            go_simp
                            try (with_reducible rfl)
                          try simp only [List.getElem_toArray, List.getElem_cons_zero, List.getElem_cons_succ, Act.put, List.setIfInBounds_toArray, List.set_cons_zero, List.set_cons_succ]
                          refine wt_take (i := 31) (v := ?_) HTK.out rfl (by decide) (by kernel_rfl) (by kernel_rfl) (fun _ _ _ h => h) (by exact S0.out) (Or.inl ⟨by rfl, ?_⟩) ?_
                          rotate_left
                          · intro W hSw
                            try dsimp only at hSw
                            have q9 := (hSw.cell (p := ⟨r1, m * 10 + 7, none⟩) (by exact hrl1)).trans p7
                            go_simp
                            try (with_reducible rfl)
                          try simp only [List.getElem_toArray, List.getElem_cons_zero, List.getElem_cons_succ, Act.put, List.setIfInBounds_toArray, List.set_cons_zero, List.set_cons_succ]
                          refine wt_take (i := 32) (v := ?_) HTK.out rfl (by decide) (by kernel_rfl) (by kernel_rfl) (fun _ _ _ h => h) (by exact S0.out) (Or.inl ⟨by rfl, ?_⟩) ?_
                          rotate_left
                          · intro W hSw
                            try dsimp only at hSw
                            go_simp
                            try (with_reducible rfl)
                          try simp only [List.getElem_toArray, List.getElem_cons_zero, List.getElem_cons_succ, Act.put, List.setIfInBounds_toArray, List.set_cons_zero, List.set_cons_succ]
                          refine wt_take (i := 33) (v := ?_) HTK.out rfl (by decide) (by kernel_rfl) (by kernel_rfl) (fun _ _ _ h => h) (by exact S0.out) (Or.inl ⟨by rfl, ?_⟩) ?_
                          rotate_left
                          · intro W hSw
                            try dsimp only at hSw
                            go_simp
                            try (with_reducible rfl)
                          try simp only [List.getElem_toArray, List.getElem_cons_zero, List.getElem_cons_succ, Act.put, List.setIfInBounds_toArray, List.set_cons_zero, List.set_cons_succ]
                          refine wt_take (i := 34) (v := ?_) HTK.out rfl (by decide) (by kernel_rfl) (by kernel_rfl) (fun _ _ _ h => h) (by exact S0.out) (Or.inl ⟨by rfl, ?_⟩) ?_
                          rotate_left
                          · intro W hSw
                            try dsimp only at hSw
                            go_simp
                            try (with_reducible rfl)
                          try simp only [List.getElem_toArray, List.getElem_cons_zero, List.getElem_cons_succ, Act.put, List.setIfInBounds_toArray, List.set_cons_zero, List.set_cons_succ]
                          refine wt_take (i := 35) (v := ?_) HTK.out rfl (by decide) (by kernel_rfl) (by kernel_rfl) (fun _ _ _ h => h) (by exact S0.out) (Or.inl ⟨by rfl, ?_⟩) ?_
                          rotate_left
                          · intro W hSw
                            try dsimp only at hSw
                            go_simp
                            try (with_reducible rfl)
                          try simp only [List.getElem_toArray, List.getElem_cons_zero, List.getElem_cons_succ, Act.put, List.setIfInBounds_toArray, List.set_cons_zero, List.set_cons_succ]
                          refine wt_take (i := 36) (v := ?_) HTK.out rfl (by decide) (by kernel_rfl) (by kernel_rfl) (fun _ _ _ h => h) (by exact S0.out) (Or.inl ⟨by rfl, ?_⟩) ?_
                          rotate_left
                          · intro W hSw
                            try dsimp only at hSw
                            have q9 := (hSw.cell (p := ⟨r1, (m + 1) * 10 + 7, none⟩) (by exact hrl1)).trans q7
                            go_simp
                            try (with_reducible rfl)
                          try simp only [List.getElem_toArray, List.getElem_cons_zero, List.getElem_cons_succ, Act.put, List.setIfInBounds_toArray, List.set_cons_zero, List.set_cons_succ]
                          refine wt_take (i := 37) (v := ?_) HTK.out rfl (by decide) (by kernel_rfl) (by kernel_rfl) (fun _ _ _ h => h) (by exact S0.out) (Or.inl ⟨by rfl, ?_⟩) ?_
                          rotate_left
                          · intro W hSw
                            try dsimp only at hSw
                            go_simp
                            try (with_reducible rfl)
                          try simp only [List.getElem_toArray, List.getElem_cons_zero, List.getElem_cons_succ, Act.put, List.setIfInBounds_toArray, List.set_cons_zero, List.set_cons_succ]
                          refine wt_take (i := 38) (v := ?_) HTK.out rfl (by decide) (by kernel_rfl) (by kernel_rfl) (fun _ _ _ h => h) (by exact S0.out) (Or.inl ⟨by rfl, ?_⟩) ?_
                          rotate_left
                          · intro W hSw
                            try dsimp only at hSw
                            go_simp
                            try (with_reducible rfl)
                          try simp only [List.getElem_toArray, List.getElem_cons_zero, List.getElem_cons_succ, Act.put, List.setIfInBounds_toArray, List.set_cons_zero, List.set_cons_succ]
                          refine wt_take (i := 39) (v := ?_) HTK.out rfl (by decide) (by kernel_rfl) (by kernel_rfl) (fun _ _ _ h => h) (by exact S0.out) (Or.inl ⟨by rfl, ?_⟩) ?_
                          rotate_left
                          · intro W hSw
                            try dsimp only at hSw
                            go_simp
                            try (with_reducible rfl)
                          try simp only [List.getElem_toArray, List.getElem_cons_zero, List.getElem_cons_succ, Act.put, List.setIfInBounds_toArray, List.set_cons_zero, List.set_cons_succ]
                          refine wt_take (i := 40) (v := ?_) HTK.out rfl (by decide) (by kernel_rfl) (by kernel_rfl) (fun _ _ _ h => h) (by exact S0.out) (Or.inl ⟨by rfl, ?_⟩) ?_
                          rotate_left
                          · intro W hSw
                            try dsimp only at hSw
                            go_simp
                            try (with_reducible rfl)
                          try simp only [List.getElem_toArray, List.getElem_cons_zero, List.getElem_cons_succ, Act.put, List.setIfInBounds_toArray, List.set_cons_zero, List.set_cons_succ]
                          refine wt_take (i := 41) (v := ?_) HTK.out rfl (by decide) (by kernel_rfl) (by kernel_rfl) (fun _ _ _ h => h) (by exact S0.out) (Or.inl ⟨by rfl, ?_⟩) ?_
                          rotate_left
                          · intro W hSw
                            try dsimp only at hSw
                            go_simp
                            try (with_reducible rfl)
                          try simp only [List.getElem_toArray, List.getElem_cons_zero, List.getElem_cons_succ, Act.put, List.setIfInBounds_toArray, List.set_cons_zero, List.set_cons_succ]
                          refine wt_take (i := 42) (v := ?_) HTK.out rfl (by decide) (by kernel_rfl) (by kernel_rfl) (fun _ _ _ h => h) (by exact S0.out) (Or.inl ⟨by rfl, ?_⟩) ?_
                          rotate_left
                          · intro W hSw
                            try dsimp only at hSw
                            go_simp
                            try (with_reducible rfl)
                          try simp only [List.getElem_toArray, List.getElem_cons_zero, List.getElem_cons_succ, Act.put, List.setIfInBounds_toArray, List.set_cons_zero, List.set_cons_succ]
                          refine wt_take (i := 43) (v := ?_) HTK.out rfl (by decide) (by kernel_rfl) (by kernel_rfl) (fun _ _ _ h => h) (by exact S0.out) (Or.inl ⟨by rfl, ?_⟩) ?_
                          rotate_left
                          · intro W hSw
                            try dsimp only at hSw
                            go_simp
                            try (with_reducible rfl)
                          try simp only [List.getElem_toArray, List.getElem_cons_zero, List.getElem_cons_succ, Act.put, List.setIfInBounds_toArray, List.set_cons_zero, List.set_cons_succ]
                          refine wt_take (i := 44) (v := ?_) HTK.out rfl (by decide) (by kernel_rfl) (by kernel_rfl) (fun _ _ _ h => h) (by exact S0.out) (Or.inl ⟨by rfl, ?_⟩) ?_
                          rotate_left
                          · intro W hSw
                            try dsimp only at hSw
                            have q9 := (hSw.cell (p := ⟨r1, m * 10, none⟩) (by exact hrl1)).trans p0
                            go_simp
                            try (with_reducible rfl)
                          try simp only [List.getElem_toArray, List.getElem_cons_zero, List.getElem_cons_succ, Act.put, List.setIfInBounds_toArray, List.set_cons_zero, List.set_cons_succ]
                          refine wt_take (i := 45) (v := ?_) HTK.out rfl (by decide) (by kernel_rfl) (by kernel_rfl) (fun _ _ _ h => h) (by exact S0.out) (Or.inl ⟨by rfl, ?_⟩) ?_
                          rotate_left
                          · intro W hSw
                            try dsimp only at hSw
                            go_simp
                            try (with_reducible rfl)
                          try simp only [List.getElem_toArray, List.getElem_cons_zero, List.getElem_cons_succ, Act.put, List.setIfInBounds_toArray, List.set_cons_zero, List.set_cons_succ]
                          refine wt_take (i := 46) (v := ?_) HTK.out rfl (by decide) (by kernel_rfl) (by kernel_rfl) (fun _ _ _ h => h) (by exact S0.out) (Or.inl ⟨by rfl, ?_⟩) ?_
                          rotate_left
                          · intro W hSw
                            try dsimp only at hSw
                            go_simp
                            try (with_reducible rfl)
                          try simp only [List.getElem_toArray, List.getElem_cons_zero, List.getElem_cons_succ, Act.put, List.setIfInBounds_toArray, List.set_cons_zero, List.set_cons_succ]
                          refine wt_take (i := 47) (v := ?_) HTK.out rfl (by decide) (by kernel_rfl) (by kernel_rfl) (fun _ _ _ h => h) (by exact S0.out) (Or.inl ⟨by rfl, ?_⟩) ?_
                          rotate_left
                          · intro W hSw
                            try dsimp only at hSw
                            go_simp
                            try (with_reducible rfl)
                          try simp only [List.getElem_toArray, List.getElem_cons_zero, List.getElem_cons_succ, Act.put, List.setIfInBounds_toArray, List.set_cons_zero, List.set_cons_succ]
                          refine wt_take (i := 48) (v := ?_) HTK.out rfl (by decide) (by kernel_rfl) (by kernel_rfl) (fun _ _ _ h => h) (by exact S0.out) (Or.inl ⟨by rfl, ?_⟩) ?_
                          rotate_left
                          · intro W hSw
                            try dsimp only at hSw
                            go_simp
                            try (with_reducible rfl)
                          try simp only [List.getElem_toArray, List.getElem_cons_zero, List.getElem_cons_succ, Act.put, List.setIfInBounds_toArray, List.set_cons_zero, List.set_cons_succ]
                          refine wt_take (i := 49) (v := ?_) HTK.out rfl (by decide) (by kernel_rfl) (by kernel_rfl) (fun _ _ _ h => h) (by exact S0.out) (Or.inl ⟨by rfl, ?_⟩) ?_
                          rotate_left
                          · intro W hSw
                            try dsimp only at hSw
                            have q9 := (hSw.cell (p := ⟨r1, (m + 1) * 10, none⟩) (by exact hrl1)).trans q0
                            go_simp
                            try (with_reducible rfl)
                          try simp only [List.getElem_toArray, List.getElem_cons_zero, List.getElem_cons_succ, Act.put, List.setIfInBounds_toArray, List.set_cons_zero, List.set_cons_succ]
                          refine wt_take (i := 50) (v := ?_) HTK.out rfl (by decide) (by kernel_rfl) (by kernel_rfl) (fun _ _ _ h => h) (by exact S0.out) (Or.inl ⟨by rfl, ?_⟩) ?_
                          rotate_left
                          · intro W hSw
                            try dsimp only at hSw
                            go_simp
                            try (with_reducible rfl)
                          try simp only [List.getElem_toArray, List.getElem_cons_zero, List.getElem_cons_succ, Act.put, List.setIfInBounds_toArray, List.set_cons_zero, List.set_cons_succ]
                          refine wt_take (i := 51) (v := ?_) HTK.out rfl (by decide) (by kernel_rfl) (by kernel_rfl) (fun _ _ _ h => h) (by exact S0.out) (Or.inl ⟨by rfl, ?_⟩) ?_
                          rotate_left
                          · intro W hSw
                            try dsimp only at hSw
                            go_simp
                            try (with_reducible rfl)
                          try simp only [List.getElem_toArray, List.getElem_cons_zero, List.getElem_cons_succ, Act.put, List.setIfInBounds_toArray, List.set_cons_zero, List.set_cons_succ]
                          refine wt_take (i := 52) (v := ?_) HTK.out rfl (by decide) (by kernel_rfl) (by kernel_rfl) (fun _ _ _ h => h) (by exact S0.out) (Or.inl ⟨by rfl, ?_⟩) ?_
                          rotate_left
                          · intro W hSw
                            try dsimp only at hSw
                            go_simp
                            try (with_reducible rfl)
                          try simp only [List.getElem_toArray, List.getElem_cons_zero, List.getElem_cons_succ, Act.put, List.setIfInBounds_toArray, List.set_cons_zero, List.set_cons_succ]
                          refine wt_take (i := 53) (v := ?_) HTK.out rfl (by decide) (by kernel_rfl) (by kernel_rfl) (fun _ _ _ h => h) (by exact S0.out) (Or.inl ⟨by rfl, ?_⟩) ?_
                          rotate_left
                          · intro W hSw
                            try dsimp only at hSw
                            go_simp
                            try (with_reducible rfl)
                          try simp only [List.getElem_toArray, List.getElem_cons_zero, List.getElem_cons_succ, Act.put, List.setIfInBounds_toArray, List.set_cons_zero, List.set_cons_succ]
                          refine wt_last (k := 54) (by kernel_rfl) (by kernel_rfl) (by decide) rfl (fun K hK => ?_)
                          go_simp
                          refine hK.out _ _ ?_
                          clear hK K
                          try simp only [List.getElem_toArray, List.getElem_cons_zero, List.getElem_cons_succ, Act.put, List.setIfInBounds_toArray, List.set_cons_zero, List.set_cons_succ]
                          go_wp2_with fail
                          exact ⟨⟨m + 1 + 1, by omega, by go_num, HB.out.trans (S0.out.mono HB.out.size)⟩, by simp [intOf]; omega⟩
                        · have hjb : (pv.joined == q.joined) = false := by simp [hje]
                          clear hj2 hje
                          go_upto_region 43 with fail
                          refine wt_start (S := fun W => Below wr.heap.size wr W) 54 (by kernel_rfl) ⟨by kernel_rfl, by kernel_rfl, by kernel_rfl, by decide⟩ ?_
                          intro HTK
                          have S0 := Lib.hid (show Below wr.heap.size wr wr.drew from (Below.refl _ _).drew)
                          refine wt_take (i := 0) (v := ?_) HTK.out rfl (by decide) (by kernel_rfl) (by kernel_rfl) (fun _ _ _ h => h) (by exact S0.out) (Or.inl ⟨by rfl, ?_⟩) ?_
                          rotate_left
                          · intro W hSw
                            try dsimp only at hSw
                            go_simp
                            try (with_reducible rfl)
                          try simp only [List.getElem_toArray, List.getElem_cons_zero, List.getElem_cons_succ, Act.put, List.setIfInBounds_toArray, List.set_cons_zero, List.set_cons_succ]
                          refine wt_take (i := 1) (v := ?_) HTK.out rfl (by decide) (by kernel_rfl) (by kernel_rfl) (fun _ _ _ h => h) (by exact S0.out) (Or.inl ⟨by rfl, ?_⟩) ?_
                          rotate_left
                          · intro W hSw
                            try dsimp only at hSw
                            go_simp
                            try (with_reducible rfl)
                          try simp only [List.getElem_toArray, List.getElem_cons_zero, List.getElem_cons_succ, Act.put, List.setIfInBounds_toArray, List.set_cons_zero, List.set_cons_succ]
                          refine wt_take (i := 2) (v := ?_) HTK.out rfl (by decide) (by kernel_rfl) (by kernel_rfl) (fun _ _ _ h => h) (by exact S0.out) (Or.inl ⟨by rfl, ?_⟩) ?_
                          rotate_left
                          · intro W hSw
                            try dsimp only at hSw
                            go_simp
                            try (with_reducible rfl)
                          try simp only [List.getElem_toArray, List.getElem_cons_zero, List.getElem_cons_succ, Act.put, List.setIfInBounds_toArray, List.set_cons_zero, List.set_cons_succ]
                          refine wt_take (i := 3) (v := .agg q.cells) HTK.out rfl (by decide) (by kernel_rfl) (by kernel_rfl) (fun _ _ _ h => h) (by exact S0.out) (yieldsIf_load_at (by rfl) _ _ (by rfl) _ (by rfl) q.cells _ (fun W hSw => HQ1.out.below hSw (by exact hrl1)) Try.underlying35 (by rfl) (sizeSm _)) ?_
                          try simp only [List.getElem_toArray, List.getElem_cons_zero, List.getElem_cons_succ, Act.put, List.setIfInBounds_toArray, List.set_cons_zero, List.set_cons_succ]
                          refine wt_take (i := 4) (v := ?_) HTK.out rfl (by decide) (by kernel_rfl) (by kernel_rfl) (fun _ _ _ h => h) (by exact S0.out) (Or.inl ⟨by rfl, ?_⟩) ?_
                          rotate_left
                          · intro W hSw
                            try dsimp only at hSw
                            go_simp
                            try (with_reducible rfl)
                          try simp only [List.getElem_toArray, List.getElem_cons_zero, List.getElem_cons_succ, Act.put, List.setIfInBounds_toArray, List.set_cons_zero, List.set_cons_succ]
                          refine wt_take (i := 5) (v := ?_) HTK.out rfl (by decide) (by kernel_rfl) (by kernel_rfl) (fun _ _ _ h => h) (by exact S0.out) (Or.inl ⟨by rfl, ?_⟩) ?_
                          rotate_left
                          · intro W hSw
                            try dsimp only at hSw
                            go_simp
                            try (with_reducible rfl)
                          try simp only [List.getElem_toArray, List.getElem_cons_zero, List.getElem_cons_succ, Act.put, List.setIfInBounds_toArray, List.set_cons_zero, List.set_cons_succ]
                          refine wt_take (i := 6) (v := ?_) HTK.out rfl (by decide) (by kernel_rfl) (by kernel_rfl) (fun _ _ _ h => h) (by exact S0.out) (Or.inl ⟨by rfl, ?_⟩) ?_
                          rotate_left
                          · intro W hSw
                            try dsimp only at hSw
                            go_simp
                            try (with_reducible rfl)
                          try simp only [List.getElem_toArray, List.getElem_cons_zero, List.getElem_cons_succ, Act.put, List.setIfInBounds_toArray, List.set_cons_zero, List.set_cons_succ]
                          refine wt_take (i := 7) (v := .agg q.cells) HTK.out rfl (by decide) (by kernel_rfl) (by kernel_rfl) (fun _ _ _ h => h) (by exact S0.out) (yieldsIf_load_at (by rfl) _ _ (by rfl) _ (by rfl) q.cells _ (fun W hSw => HQ2.out.below hSw (by exact hrl2)) Try.underlying35 (by rfl) (sizeSm _)) ?_
                          try simp only [List.getElem_toArray, List.getElem_cons_zero, List.getElem_cons_succ, Act.put, List.setIfInBounds_toArray, List.set_cons_zero, List.set_cons_succ]
                          refine wt_take (i := 8) (v := ?_) HTK.out rfl (by decide) (by kernel_rfl) (by kernel_rfl) (fun _ _ _ h => h) (by exact S0.out) (Or.inl ⟨by rfl, ?_⟩) ?_
                          rotate_left
                          · intro W hSw
                            try dsimp only at hSw
                            go_simp
                            try (with_reducible rfl)
                          try simp only [List.getElem_toArray, List.getElem_cons_zero, List.getElem_cons_succ, Act.put, List.setIfInBounds_toArray, List.set_cons_zero, List.set_cons_succ]
                          refine wt_take (i := 9) (v := ?_) HTK.out rfl (by decide) (by kernel_rfl) (by kernel_rfl) (fun _ _ _ h => h) (by exact S0.out) (Or.inl ⟨by rfl, ?_⟩) ?_
                          rotate_left
                          · intro W hSw
                            try dsimp only at hSw
                            go_simp
                            try (with_reducible rfl)
                          try simp only [List.getElem_toArray, List.getElem_cons_zero, List.getElem_cons_succ, Act.put, List.setIfInBounds_toArray, List.set_cons_zero, List.set_cons_succ]
                          refine wt_take (i := 10) (v := ?_) HTK.out rfl (by decide) (by kernel_rfl) (by kernel_rfl) (fun _ _ _ h => h) (by exact S0.out) (Or.inl ⟨by rfl, ?_⟩) ?_
                          rotate_left
                          · intro W hSw
                            try dsimp only at hSw
                            go_simp
                            try (with_reducible rfl)
                          try simp only [List.getElem_toArray, List.getElem_cons_zero, List.getElem_cons_succ, Act.put, List.setIfInBounds_toArray, List.set_cons_zero, List.set_cons_succ]
                          refine wt_take (i := 11) (v := ?_) HTK.out rfl (by decide) (by kernel_rfl) (by kernel_rfl) (fun _ _ _ h => h) (by exact S0.out) (Or.inl ⟨by rfl, ?_⟩) ?_
                          rotate_left
                          · intro W hSw
                            try dsimp only at hSw
                            go_simp
                            try (with_reducible rfl)
                          try simp only [List.getElem_toArray, List.getElem_cons_zero, List.getElem_cons_succ, Act.put, List.setIfInBounds_toArray, List.set_cons_zero, List.set_cons_succ]
                          refine wt_take (i := 12) (v := ?_) HTK.out rfl (by decide) (by kernel_rfl) (by kernel_rfl) (fun _ _ _ h => h) (by exact S0.out) (Or.inl ⟨by rfl, ?_⟩) ?_
                          rotate_left
                          · intro W hSw
                            try dsimp only at hSw
                            go_simp
                            try (with_reducible rfl)
                          try simp only [List.getElem_toArray, List.getElem_cons_zero, List.getElem_cons_succ, Act.put, List.setIfInBounds_toArray, List.set_cons_zero, List.set_cons_succ]
                          refine wt_take (i := 13) (v := ?_) HTK.out rfl (by decide) (by kernel_rfl) (by kernel_rfl) (fun _ _ _ h => h) (by exact S0.out) (Or.inl ⟨by rfl, ?_⟩) ?_
                          rotate_left
                          · intro W hSw
                            try dsimp only at hSw
                            go_simp
                            try (with_reducible rfl)
                          try simp only [List.getElem_toArray, List.getElem_cons_zero, List.getElem_cons_succ, Act.put, List.setIfInBounds_toArray, List.set_cons_zero, List.set_cons_succ]
                          refine wt_take (i := 14) (v := ?_) HTK.out rfl (by decide) (by kernel_rfl) (by kernel_rfl) (fun _ _ _ h => h) (by exact S0.out) (Or.inl ⟨by rfl, ?_⟩) ?_
                          rotate_left
                          · intro W hSw
                            try dsimp only at hSw
                            go_simp
                            try (with_reducible rfl)
                          try simp only [List.getElem_toArray, List.getElem_cons_zero, List.getElem_cons_succ, Act.put, List.setIfInBounds_toArray, List.set_cons_zero, List.set_cons_succ]
                          refine wt_take (i := 15) (v := ?_) HTK.out rfl (by decide) (by kernel_rfl) (by kernel_rfl) (fun _ _ _ h => h) (by exact S0.out) (Or.inl ⟨by rfl, ?_⟩) ?_
                          rotate_left
                          · intro W hSw
                            try dsimp only at hSw
                            go_simp
                            try (with_reducible rfl)
                          try simp only [List.getElem_toArray, List.getElem_cons_zero, List.getElem_cons_succ, Act.put, List.setIfInBounds_toArray, List.set_cons_zero, List.set_cons_succ]
                          refine wt_take (i := 16) (v := ?_) HTK.out rfl (by decide) (by kernel_rfl) (by kernel_rfl) (fun _ _ _ h => h) (by exact S0.out) (Or.inl ⟨by rfl, ?_⟩) ?_
                          rotate_left
                          · intro W hSw
                            try dsimp only at hSw
                            go_simp
                            try (with_reducible rfl)
                          try simp only [List.getElem_toArray, List.getElem_cons_zero, List.getElem_cons_succ, Act.put, List.setIfInBounds_toArray, List.set_cons_zero, List.set_cons_succ]
                          refine wt_take (i := 17) (v := ?_) HTK.out rfl (by decide) (by kernel_rfl) (by kernel_rfl) (fun _ _ _ h => h) (by exact S0.out) (Or.inl ⟨by rfl, ?_⟩) ?_
                          rotate_left
                          · intro W hSw
                            try dsimp only at hSw
                            go_simp
                            try (with_reducible rfl)
                          try simp only [List.getElem_toArray, List.getElem_cons_zero, List.getElem_cons_succ, Act.put, List.setIfInBounds_toArray, List.set_cons_zero, List.set_cons_succ]
                          refine wt_take (i := 18) (v := ?_) HTK.out rfl (by decide) (by kernel_rfl) (by kernel_rfl) (fun _ _ _ h => h) (by exact S0.out) (Or.inl ⟨by rfl, ?_⟩) ?_
                          rotate_left
                          · intro W hSw
                            try dsimp only at hSw
                            have q9 := (hSw.cell (p := ⟨r1, m * 10 + 7, none⟩) (by exact hrl1)).trans p7
                            go_simp
                            try (with_reducible rfl)
                          try simp only [List.getElem_toArray, List.getElem_cons_zero, List.getElem_cons_succ, Act.put, List.setIfInBounds_toArray, List.set_cons_zero, List.set_cons_succ]
                          refine wt_take (i := 19) (v := ?_) HTK.out rfl (by decide) (by kernel_rfl) (by kernel_rfl) (fun _ _ _ h => h) (by exact S0.out) (Or.inl ⟨by rfl, ?_⟩) ?_
                          rotate_left
                          · intro W hSw
                            try dsimp only at hSw
                            go_simp
                            try (with_reducible rfl)
                          try simp only [List.getElem_toArray, List.getElem_cons_zero, List.getElem_cons_succ, Act.put, List.setIfInBounds_toArray, List.set_cons_zero, List.set_cons_succ]
                          refine wt_take (i := 20) (v := ?_) HTK.out rfl (by decide) (by kernel_rfl) (by kernel_rfl) (fun _ _ _ h => h) (by exact S0.out) (Or.inl ⟨by rfl, ?_⟩) ?_
                          rotate_left
                          · intro W hSw
                            try dsimp only at hSw
                            go_simp
                            try (with_reducible rfl)
                          try simp only [List.getElem_toArray, List.getElem_cons_zero, List.getElem_cons_succ, Act.put, List.setIfInBounds_toArray, List.set_cons_zero, List.set_cons_succ]
                          refine wt_take (i := 21) (v := ?_) HTK.out rfl (by decide) (by kernel_rfl) (by kernel_rfl) (fun _ _ _ h => h) (by exact S0.out) (Or.inl ⟨by rfl, ?_⟩) ?_
                          rotate_left
                          · intro W hSw
                            try dsimp only at hSw
                            go_simp
                            try (with_reducible rfl)
                          try simp only [List.getElem_toArray, List.getElem_cons_zero, List.getElem_cons_succ, Act.put, List.setIfInBounds_toArray, List.set_cons_zero, List.set_cons_succ]
                          refine wt_take (i := 22) (v := ?_) HTK.out rfl (by decide) (by kernel_rfl) (by kernel_rfl) (fun _ _ _ h => h) (by exact S0.out) (Or.inl ⟨by rfl, ?_⟩) ?_
                          rotate_left
                          · intro W hSw
                            try dsimp only at hSw
                            go_simp
                            try (with_reducible rfl)
                          try simp only [List.getElem_toArray, List.getElem_cons_zero, List.getElem_cons_succ, Act.put, List.setIfInBounds_toArray, List.set_cons_zero, List.set_cons_succ]
                          refine wt_take (i := 23) (v := ?_) HTK.out rfl (by decide) (by kernel_rfl) (by kernel_rfl) (fun _ _ _ h => h) (by exact S0.out) (Or.inl ⟨by rfl, ?_⟩) ?_
                          rotate_left
                          · intro W hSw
                            try dsimp only at hSw
                            have q9 := (hSw.cell (p := ⟨r1, (m + 1) * 10 + 7, none⟩) (by exact hrl1)).trans q7
                            go_simp
                            try (with_reducible rfl)
                          try simp only [List.getElem_toArray, List.getElem_cons_zero, List.getElem_cons_succ, Act.put, List.setIfInBounds_toArray, List.set_cons_zero, List.set_cons_succ]
                          refine wt_take (i := 24) (v := ?_) HTK.out rfl (by decide) (by kernel_rfl) (by kernel_rfl) (fun _ _ _ h => h) (by exact S0.out) (Or.inl ⟨by rfl, ?_⟩) ?_
                          rotate_left
                          · intro W hSw
                            try dsimp only at hSw
                            go_simp
                            try (with_reducible rfl)
                          try simp only [List.getElem_toArray, List.getElem_cons_zero, List.getElem_cons_succ, Act.put, List.setIfInBounds_toArray, List.set_cons_zero, List.set_cons_succ]
                          refine wt_take (i := 25) (v := ?_) HTK.out rfl (by decide) (by kernel_rfl) (by kernel_rfl) (fun _ _ _ h => h) (by exact S0.out) (Or.inl ⟨by rfl, ?_⟩) ?_
                          rotate_left
                          · intro W hSw
                            try dsimp only at hSw
                            go_simp
                            try (with_reducible rfl)
                          try simp only [List.getElem_toArray, List.getElem_cons_zero, List.getElem_cons_succ, Act.put, List.setIfInBounds_toArray, List.set_cons_zero, List.set_cons_succ]
                          refine wt_take (i := 26) (v := ?_) HTK.out rfl (by decide) (by kernel_rfl) (by kernel_rfl) (fun _ _ _ h => h) (by exact S0.out) (Or.inl ⟨by rfl, ?_⟩) ?_
                          rotate_left
                          · intro W hSw
                            try dsimp only at hSw
                            go_simp
                            try (with_reducible rfl)
                          try simp only [List.getElem_toArray, List.getElem_cons_zero, List.getElem_cons_succ, Act.put, List.setIfInBounds_toArray, List.set_cons_zero, List.set_cons_succ]
                          refine wt_take (i := 27) (v := ?_) HTK.out rfl (by decide) (by kernel_rfl) (by kernel_rfl) (fun _ _ _ h => h) (by exact S0.out) (Or.inl ⟨by rfl, ?_⟩) ?_
                          rotate_left
                          · intro W hSw
                            try dsimp only at hSw
                            go_simp
                            try (with_reducible rfl)
                          try simp only [List.getElem_toArray, List.getElem_cons_zero, List.getElem_cons_succ, Act.put, List.setIfInBounds_toArray, List.set_cons_zero, List.set_cons_succ]
                          refine wt_take (i := 28) (v := ?_) HTK.out rfl (by decide) (by kernel_rfl) (by kernel_rfl) (fun _ _ _ h => h) (by exact S0.out) (Or.inl ⟨by rfl, ?_⟩) ?_
                          rotate_left
                          · intro W hSw
                            try dsimp only at hSw
                            go_simp
                            try (with_reducible rfl)
                          try simp only [List.getElem_toArray, List.getElem_cons_zero, List.getElem_cons_succ, Act.put, List.setIfInBounds_toArray, List.set_cons_zero, List.set_cons_succ]
                          refine wt_take (i := 29) (v := ?_) HTK.out rfl (by decide) (by kernel_rfl) (by kernel_rfl) (fun _ _ _ h => h) (by exact S0.out) (Or.inl ⟨by rfl, ?_⟩) ?_
                          rotate_left
                          · intro W hSw
                            try dsimp only at hSw
                            go_simp
                            try (with_reducible rfl)
                          try simp only [List.getElem_toArray, List.getElem_cons_zero, List.getElem_cons_succ, Act.put, List.setIfInBounds_toArray, List.set_cons_zero, List.set_cons_succ]
                          refine wt_take (i := 30) (v := ?_) HTK.out rfl (by decide) (by kernel_rfl) (by kernel_rfl) (fun _ _ _ h => h) (by exact S0.out) (Or.inl ⟨by rfl, ?_⟩) ?_
                          rotate_left
                          · intro W hSw
                            try dsimp only at hSw
                            go_simp
                            try (with_reducible rfl)
                          try simp only [List.getElem_toArray, List.getElem_cons_zero, List.getElem_cons_succ, Act.put, List.setIfInBounds_toArray, List.set_cons_zero, List.set_cons_succ]
                          refine wt_take (i := 31) (v := ?_) HTK.out rfl (by decide) (by kernel_rfl) (by kernel_rfl) (fun _ _ _ h => h) (by exact S0.out) (Or.inl ⟨by rfl, ?_⟩) ?_
                          rotate_left
                          · intro W hSw
                            try dsimp only at hSw
                            have q9 := (hSw.cell (p := ⟨r1, m * 10 + 7, none⟩) (by exact hrl1)).trans p7
                            go_simp
                            try (with_reducible rfl)
                          try simp only [List.getElem_toArray, List.getElem_cons_zero, List.getElem_cons_succ, Act.put, List.setIfInBounds_toArray, List.set_cons_zero, List.set_cons_succ]
                          refine wt_take (i := 32) (v := ?_) HTK.out rfl (by decide) (by kernel_rfl) (by kernel_rfl) (fun _ _ _ h => h) (by exact S0.out) (Or.inl ⟨by rfl, ?_⟩) ?_
                          rotate_left
                          · intro W hSw
                            try dsimp only at hSw
                            go_simp
                            try (with_reducible rfl)
                          try simp only [List.getElem_toArray, List.getElem_cons_zero, List.getElem_cons_succ, Act.put, List.setIfInBounds_toArray, List.set_cons_zero, List.set_cons_succ]
                          refine wt_take (i := 33) (v := ?_) HTK.out rfl (by decide) (by kernel_rfl) (by kernel_rfl) (fun _ _ _ h => h) (by exact S0.out) (Or.inl ⟨by rfl, ?_⟩) ?_
                          rotate_left
                          · intro W hSw
                            try dsimp only at hSw
                            go_simp
                            try (with_reducible rfl)
                          try simp only [List.getElem_toArray, List.getElem_cons_zero, List.getElem_cons_succ, Act.put, List.setIfInBounds_toArray, List.set_cons_zero, List.set_cons_succ]
                          refine wt_take (i := 34) (v := ?_) HTK.out rfl (by decide) (by kernel_rfl) (by kernel_rfl) (fun _ _ _ h => h) (by exact S0.out) (Or.inl ⟨by rfl, ?_⟩) ?_
                          rotate_left
                          · intro W hSw
                            try dsimp only at hSw
                            go_simp
                            try (with_reducible rfl)
                          try simp only [List.getElem_toArray, List.getElem_cons_zero, List.getElem_cons_succ, Act.put, List.setIfInBounds_toArray, List.set_cons_zero, List.set_cons_succ]
                          refine wt_take (i := 35) (v := ?_) HTK.out rfl (by decide) (by kernel_rfl) (by kernel_rfl) (fun _ _ _ h => h) (by exact S0.out) (Or.inl ⟨by rfl, ?_⟩) ?_
                          rotate_left
                          · intro W hSw
                            try dsimp only at hSw
                            go_simp
                            try (with_reducible rfl)
                          try simp only [List.getElem_toArray, List.getElem_cons_zero, List.getElem_cons_succ, Act.put, List.setIfInBounds_toArray, List.set_cons_zero, List.set_cons_succ]
                          refine wt_take (i := 36) (v := ?_) HTK.out rfl (by decide) (by kernel_rfl) (by kernel_rfl) (fun _ _ _ h => h) (by exact S0.out) (Or.inl ⟨by rfl, ?_⟩) ?_
                          rotate_left
                          · intro W hSw
                            try dsimp only at hSw
                            have q9 := (hSw.cell (p := ⟨r1, (m + 1) * 10 + 7, none⟩) (by exact hrl1)).trans q7
                            go_simp
                            try (with_reducible rfl)
                          try simp only [List.getElem_toArray, List.getElem_cons_zero, List.getElem_cons_succ, Act.put, List.setIfInBounds_toArray, List.set_cons_zero, List.set_cons_succ]
                          refine wt_take (i := 37) (v := ?_) HTK.out rfl (by decide) (by kernel_rfl) (by kernel_rfl) (fun _ _ _ h => h) (by exact S0.out) (Or.inl ⟨by rfl, ?_⟩) ?_
                          rotate_left
                          · intro W hSw
                            try dsimp only at hSw
                            go_simp
                            try (with_reducible rfl)
                          try simp only [List.getElem_toArray, List.getElem_cons_zero, List.getElem_cons_succ, Act.put, List.setIfInBounds_toArray, List.set_cons_zero, List.set_cons_succ]
                          refine wt_take (i := 38) (v := ?_) HTK.out rfl (by decide) (by kernel_rfl) (by kernel_rfl) (fun _ _ _ h => h) (by exact S0.out) (Or.inl ⟨by rfl, ?_⟩) ?_
                          rotate_left
                          · intro W hSw
                            try dsimp only at hSw
                            go_simp
                            try (with_reducible rfl)
                          try simp only [List.getElem_toArray, List.getElem_cons_zero, List.getElem_cons_succ, Act.put, List.setIfInBounds_toArray, List.set_cons_zero, List.set_cons_succ]
                          refine wt_take (i := 39) (v := undef) HTK.out rfl (by decide) (by kernel_rfl) (by kernel_rfl) (fun _ _ _ h => h) (by exact S0.out) (Or.inr ⟨by rfl, rfl⟩) ?_
                          try simp only [List.getElem_toArray, List.getElem_cons_zero, List.getElem_cons_succ, Act.put, List.setIfInBounds_toArray, List.set_cons_zero, List.set_cons_succ]
                          refine wt_take (i := 40) (v := undef) HTK.out rfl (by decide) (by kernel_rfl) (by kernel_rfl) (fun _ _ _ h => h) (by exact S0.out) (Or.inr ⟨by rfl, rfl⟩) ?_
                          try simp only [List.getElem_toArray, List.getElem_cons_zero, List.getElem_cons_succ, Act.put, List.setIfInBounds_toArray, List.set_cons_zero, List.set_cons_succ]
                          refine wt_take (i := 41) (v := undef) HTK.out rfl (by decide) (by kernel_rfl) (by kernel_rfl) (fun _ _ _ h => h) (by exact S0.out) (Or.inr ⟨by rfl, rfl⟩) ?_
                          try simp only [List.getElem_toArray, List.getElem_cons_zero, List.getElem_cons_succ, Act.put, List.setIfInBounds_toArray, List.set_cons_zero, List.set_cons_succ]
                          refine wt_take (i := 42) (v := undef) HTK.out rfl (by decide) (by kernel_rfl) (by kernel_rfl) (fun _ _ _ h => h) (by exact S0.out) (Or.inr ⟨by rfl, rfl⟩) ?_
                          try simp only [List.getElem_toArray, List.getElem_cons_zero, List.getElem_cons_succ, Act.put, List.setIfInBounds_toArray, List.set_cons_zero, List.set_cons_succ]
                          refine wt_take (i := 43) (v := undef) HTK.out rfl (by decide) (by kernel_rfl) (by kernel_rfl) (fun _ _ _ h => h) (by exact S0.out) (Or.inr ⟨by rfl, rfl⟩) ?_
                          try simp only [List.getElem_toArray, List.getElem_cons_zero, List.getElem_cons_succ, Act.put, List.setIfInBounds_toArray, List.set_cons_zero, List.set_cons_succ]
                          refine wt_take (i := 44) (v := undef) HTK.out rfl (by decide) (by kernel_rfl) (by kernel_rfl) (fun _ _ _ h => h) (by exact S0.out) (Or.inr ⟨by rfl, rfl⟩) ?_
                          try simp only [List.getElem_toArray, List.getElem_cons_zero, List.getElem_cons_succ, Act.put, List.setIfInBounds_toArray, List.set_cons_zero, List.set_cons_succ]
                          refine wt_take (i := 45) (v := undef) HTK.out rfl (by decide) (by kernel_rfl) (by kernel_rfl) (fun _ _ _ h => h) (by exact S0.out) (Or.inr ⟨by rfl, rfl⟩) ?_
                          try simp only [List.getElem_toArray, List.getElem_cons_zero, List.getElem_cons_succ, Act.put, List.setIfInBounds_toArray, List.set_cons_zero, List.set_cons_succ]
                          refine wt_take (i := 46) (v := undef) HTK.out rfl (by decide) (by kernel_rfl) (by kernel_rfl) (fun _ _ _ h => h) (by exact S0.out) (Or.inr ⟨by rfl, rfl⟩) ?_
                          try simp only [List.getElem_toArray, List.getElem_cons_zero, List.getElem_cons_succ, Act.put, List.setIfInBounds_toArray, List.set_cons_zero, List.set_cons_succ]
                          refine wt_take (i := 47) (v := undef) HTK.out rfl (by decide) (by kernel_rfl) (by kernel_rfl) (fun _ _ _ h => h) (by exact S0.out) (Or.inr ⟨by rfl, rfl⟩) ?_
                          try simp only [List.getElem_toArray, List.getElem_cons_zero, List.getElem_cons_succ, Act.put, List.setIfInBounds_toArray, List.set_cons_zero, List.set_cons_succ]
                          refine wt_take (i := 48) (v := undef) HTK.out rfl (by decide) (by kernel_rfl) (by kernel_rfl) (fun _ _ _ h => h) (by exact S0.out) (Or.inr ⟨by rfl, rfl⟩) ?_
                          try simp only [List.getElem_toArray, List.getElem_cons_zero, List.getElem_cons_succ, Act.put, List.setIfInBounds_toArray, List.set_cons_zero, List.set_cons_succ]
                          refine wt_take (i := 49) (v := undef) HTK.out rfl (by decide) (by kernel_rfl) (by kernel_rfl) (fun _ _ _ h => h) (by exact S0.out) (Or.inr ⟨by rfl, rfl⟩) ?_
                          try simp only [List.getElem_toArray, List.getElem_cons_zero, List.getElem_cons_succ, Act.put, List.setIfInBounds_toArray, List.set_cons_zero, List.set_cons_succ]
                          refine wt_take (i := 50) (v := undef) HTK.out rfl (by decide) (by kernel_rfl) (by kernel_rfl) (fun _ _ _ h => h) (by exact S0.out) (Or.inr ⟨by rfl, rfl⟩) ?_
                          try simp only [List.getElem_toArray, List.getElem_cons_zero, List.getElem_cons_succ, Act.put, List.setIfInBounds_toArray, List.set_cons_zero, List.set_cons_succ]
                          refine wt_take (i := 51) (v := ?_) HTK.out rfl (by decide) (by kernel_rfl) (by kernel_rfl) (fun _ _ _ h => h) (by exact S0.out) (Or.inl ⟨by rfl, ?_⟩) ?_
                          rotate_left
                          · intro W hSw
                            try dsimp only at hSw
                            go_simp
                            try (with_reducible rfl)
                          try simp only [List.getElem_toArray, List.getElem_cons_zero, List.getElem_cons_succ, Act.put, List.setIfInBounds_toArray, List.set_cons_zero, List.set_cons_succ]
                          refine wt_take (i := 52) (v := ?_) HTK.out rfl (by decide) (by kernel_rfl) (by kernel_rfl) (fun _ _ _ h => h) (by exact S0.out) (Or.inl ⟨by rfl, ?_⟩) ?_
                          rotate_left
                          · intro W hSw
                            try dsimp only at hSw
                            go_simp
                            try (with_reducible rfl)
                          try simp only [List.getElem_toArray, List.getElem_cons_zero, List.getElem_cons_succ, Act.put, List.setIfInBounds_toArray, List.set_cons_zero, List.set_cons_succ]
                          refine wt_take (i := 53) (v := ?_) HTK.out rfl (by decide) (by kernel_rfl) (by kernel_rfl) (fun _ _ _ h => h) (by exact S0.out) (Or.inl ⟨by rfl, ?_⟩) ?_
                          rotate_left
                          · intro W hSw
                            try dsimp only at hSw
                            go_simp
                            try (with_reducible rfl)
                          try simp only [List.getElem_toArray, List.getElem_cons_zero, List.getElem_cons_succ, Act.put, List.setIfInBounds_toArray, List.set_cons_zero, List.set_cons_succ]
                          refine wt_last (k := 54) (by kernel_rfl) (by kernel_rfl) (by decide) rfl (fun K hK => ?_)
                          go_simp
                          refine hK.out _ _ ?_
                          clear hK K
                          try simp only [List.getElem_toArray, List.getElem_cons_zero, List.getElem_cons_succ, Act.put, List.setIfInBounds_toArray, List.set_cons_zero, List.set_cons_succ]
                          go_wp2_with fail
                          exact ⟨⟨m + 1 + 1, by omega, by go_num, HB.out.trans (S0.out.mono HB.out.size)⟩, by simp [intOf]; omega⟩
                    · obtain rfl : k = od.length := by omega
                      clear hb
                      go_wp2_with fail
                      go_ret
                      exact ⟨rfl, B10.out.trans (HB.out.mono B10.out.size)⟩
end Go.Proofs.Ytmhhoaaoofopfaa
