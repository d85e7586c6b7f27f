/- alias.Main: a room's main alias, by a state. -/
import Derived.Test.YtgnoaeldmpbjmaaGreatDoorMM9
import Derived.Test.YtgnoaeldmpbjmaaGreatDoorMM7
import Derived.Test.YtgnoaeldmpbjmaaGreatDoorMM2
import Derived.Test.YtgnoaeldmpbjmaaGreatDoorMM3
import Derived.Maps.OwnSet
import Derived.Test.YtgnoaeldmpbjmaaGreatDoorMM8
import Derived.Test.YtgnoaeldmpbjmaaGreatDoorMM6
import Derived.Laws.Cover1
set_option linter.unusedVariables false
set_option linter.unusedSimpArgs false
namespace Go.Proofs.YtgnoaeldmpbjmaaGreatDoor
open Go.RowKit

abbrev canonB : ByteArray := ⟨#[109, 46, 114, 111, 111, 109, 46, 99, 97, 110, 111, 110, 105, 99, 97, 108, 95, 97, 108, 105, 97, 115]⟩
abbrev aliasB : ByteArray := ⟨#[97, 108, 105, 97, 115]⟩
abbrev canonK : K2 := (canonB, ⟨#[]⟩)
/-- A room's main alias, if an alias is told. -/
def mainOf (l : List En) (room tx : ByteArray) : ByteArray := match getE l tx with
  | some x => if x.r.toList == room.toList then tx else ⟨#[]⟩
  | none => ⟨#[]⟩
theorem mainOf_nil (l : List En) (room : ByteArray) : mainOf l room ⟨#[]⟩ = ⟨#[]⟩ := by
  unfold mainOf
  split
  · split <;> rfl
  · rfl
theorem RepV.form {w : World} {P : Nat → Prop} {x : V6} {v : V} (h : RepV w P x v) : ∃ L M, v = .mk x.kind x.yes x.int x.text L M := by
  cases h with
  | mk x L M => exact ⟨_, _, rfl⟩
theorem str_of_rep {w : World} {P : Nat → Prop} {x : V6} {v : V} {key : ByteArray} (h : RepV w P x ((v.get key).getD nilV)) : v.str key = if x.kind = 3 then x.text else ⟨#[]⟩ := by
  unfold V.str
  cases hg : v.get key with
  | none =>
    rw [hg] at h
    obtain ⟨L, M, e⟩ := RepV.form (show RepV w P x nilV from h)
    unfold nilV at e
    injection e with e1
    simp [← e1]
  | some u =>
    rw [hg] at h
    obtain ⟨L, M, e⟩ := RepV.form (show RepV w P x u from h)
    subst e
    rfl
set_option maxRecDepth 100000 in
set_option maxHeartbeats 4000000 in
theorem main_calls (w : World) (g b : Nat) (server : ByteArray) (most : Int) (l : List En) (room : ByteArray) (Q : Nat → Prop) (b2 : Nat) (zs : List En2) (ht : Tab w g b server most l) (hs : StR w Q b2 zs) (hz : ((contZ zs canonK).str aliasB).size ≤ 9223372036854775807) :
    Calls Tryz.prog 13 #[.pointer (some ⟨g, 0, none⟩), .string room, .map (some b2)] w fun e w' => e = .returned (.string (mainOf l room ((contZ zs canonK).str aliasB))) ∧ Below w.heap.size w w' := by
  have HCT := Lib.hid (content_ok w Q b2 zs hs canonK ⟨by decide, by decide⟩)
  have HT := Lib.hid ht
  have HZ := Lib.hid hz
  obtain ⟨cv, hcv⟩ : ∃ cv, cv = contZ zs canonK := ⟨_, rfl⟩
  rw [← hcv] at HCT HZ ⊢
  clear ht hs hz hcv
  go_enter Tryz.func13, Tryz.ntmps13
  go_wp2_with fail
  refine HCT.out.mono ?_
  rintro e w1 ⟨x1, ok, rfl, hrep1, hb1⟩
  have HB1 := Lib.hid hb1
  obtain ⟨wa, hwa⟩ : ∃ wa : World, wa = w1.alloc (.cells x1.cells 92) := ⟨_, rfl⟩
  have HBA := Lib.hid (show Below w1.heap.size w1 wa by rw [hwa]; exact (Below.refl _ _).alloc (Nat.le_refl _) _)
  have HXA := Lib.hid (show wa.heap[w1.heap.size]? = some (.cells x1.cells 92 (0, 0)) by rw [hwa]; exact heap_new_at _ _ _ rfl)
  have HG := Lib.hid (vget_calls wa (fun g => w.heap.size ≤ g) x1 cv aliasB (hrep1.same HBA.out.size (fun g hg _ => HBA.out.block g hg)))
  have HWA := Lib.hid hwa
  clear hrep1 hb1 hwa HCT
  go_upto_region 2 with fail
  rw [← HWA.out]
  go_wp2_with (refine wpList_load_at rfl _ _ rfl _ rfl (V6.cells x1) _ (Holds.of_block HXA.out) Tryz.underlying92 rfl (sizeV6p _) ?_)
  refine HG.out.mono ?_
  rintro e w2 ⟨x2, rfl, hrep2, hb2⟩
  obtain ⟨wb, hwb⟩ : ∃ wb : World, wb = w2.alloc (.cells x2.cells 92) := ⟨_, rfl⟩
  have HBB := Lib.hid (show Below w2.heap.size w2 wb by rw [hwb]; exact (Below.refl _ _).alloc (Nat.le_refl _) _)
  have HXB := Lib.hid (show wb.heap[w2.heap.size]? = some (.cells x2.cells 92 (0, 0)) by rw [hwb]; exact heap_new_at _ _ _ rfl)
  have HSTR := Lib.hid (str_of_rep hrep2)
  have hb01 := HB1.out
  have hb1a := HBA.out
  have hb2b := HBB.out
  have HBW := Lib.hid (hb01.trans ((hb1a.trans ((hb2.trans (hb2b.mono hb2.size)).mono hb1a.size)).mono hb01.size))
  have HWB := Lib.hid hwb
  have HTB := Lib.hid (HT.out.below HBW.out)
  have HGT := Lib.hid (fun (k : ByteArray) (hk : k.size ≤ maxLen) => get_calls wb g b server most l k HTB.out hk)
  clear hrep2 hb2 hwb HG hb01 hb1a hb2b
  go_upto_region 3 with fail
  rw [← HWB.out]
  have q0 : wb.cell? ⟨w2.heap.size, 0, none⟩ = some (.int .i64 x2.kind) := cell_at (j := 0) HXB.out rfl
  have q3 : wb.cell? ⟨w2.heap.size, 3, none⟩ = some (.string x2.text) := cell_at (j := 3) HXB.out rfl
  by_cases h3 : x2.kind = 3
  · have h3b : (x2.kind == 3) = true := by simp [h3]
    have h3c : (x2.kind != 3) = false := by simp [h3]
    have hstr : cv.str aliasB = x2.text := by rw [HSTR.out, if_pos h3]
    have HS := Lib.hid hstr
    have hsz : x2.text.size ≤ maxLen := by rw [← hstr]; exact HZ.out
    have HGX := Lib.hid (HGT.out x2.text hsz)
    have HMN := Lib.hid (show mainOf l room x2.text = (match getE l x2.text with | some x => if x.r.toList == room.toList then x2.text else ⟨#[]⟩ | none => ⟨#[]⟩) from rfl)
    clear hstr hsz HGT
    generalize getE l x2.text = o at HGX HMN
    go_wp2_with fail
    refine HGX.out.mono ?_
    rintro e w3 ⟨rfl, hb3⟩
    have HBF := Lib.hid (HBW.out.trans (hb3.mono HBW.out.size))
    have q3' := (hb3.cell (p := ⟨w2.heap.size, 3, none⟩) (by exact blk_lt HXB.out)).trans q3
    have hl3 : w2.heap.size < w3.heap.size := Nat.lt_of_lt_of_le (blk_lt HXB.out) hb3.size
    clear q0 q3 hb3 HGX
    cases o with
    | none =>
      simp only [getV, enZ, errNone]
      go_wp2_with fail
      go_ret
      exact ⟨by rw [HS.out, HMN.out]; rfl, HBF.out.alloc HBF.out.size _⟩
    | some x =>
      simp only [getV]
      cases hr : (x.r.toList == room.toList) with
      | true =>
        have hrn : (x.r.toList != room.toList) = false := by simp [bne, hr]
        go_wp2_with fail
        go_ret
        exact ⟨by rw [HS.out, HMN.out]; first | rfl | simp [hr] | (simp only [hr]; rfl), HBF.out.alloc HBF.out.size _⟩
      | false =>
        have hrn : (x.r.toList != room.toList) = true := by simp [bne, hr]
        go_wp2_with fail
        go_ret
        exact ⟨by rw [HS.out, HMN.out]; first | rfl | simp [hr] | (simp only [hr]; rfl), HBF.out.alloc HBF.out.size _⟩
  · have h3b : (x2.kind == 3) = false := by simp [h3]
    have h3c : (x2.kind != 3) = true := by simp [h3]
    have hstr : cv.str aliasB = ⟨#[]⟩ := by rw [HSTR.out, if_neg h3]
    have HS := Lib.hid hstr
    clear hstr HGT
    go_wp2_with fail
    go_ret
    exact ⟨by rw [HS.out, mainOf_nil]; first | done | rfl, HBW.out⟩
end Go.Proofs.YtgnoaeldmpbjmaaGreatDoor
/- The document's Find: a pair's event. -/
set_option linter.unusedVariables false
set_option linter.unusedSimpArgs false
namespace Go.Proofs.YtgnoaeldmpbjmaaGreatDoor
open Go.RowKit

def findT (l : List Tx) (k : K2) : Option Tx := l.find? fun x => same2 x.1.k k
/-- What Find answers. -/
def findV (l : List Tx) (k : K2) : T16 := match findT l k with | some x => x.1 | none => zT
theorem findT_first {l : List Tx} {k : K2} {i : Nat} {x : Tx} (hx : l[i]? = some x) (hk : same2 x.1.k k = true) (hno : ∀ (j : Nat) (y : Tx), j < i → l[j]? = some y → same2 y.1.k k = false) : findT l k = some x := find_first hx hk hno
theorem zeroT16 : (T16.cells zT) = #[.string ⟨#[]⟩, .string ⟨#[]⟩, .string ⟨#[]⟩, .string ⟨#[]⟩, .string ⟨#[]⟩, .bool false, .int .i64 0, .bool false, .int .i64 0, .string ⟨#[]⟩, .slice none 0 0, .slice none 0 0, .int .i64 0, .int .i64 0, .slice none 0 0, .slice none 0 0] := rfl
theorem wpList_store_t16 {ops : Array Oper} {rest : List Oper} {op : Oper} {a : Act} {w : World} {Q : Exit → Act → World → Prop} (hgd : op.guard = none) (p q : Operand) (ho : op.op = .store 73 p q) (b : Nat) (z : T16)
    (hx : a.eval p = .pointer (some ⟨b, 0, none⟩)) (hy : a.eval q = .agg z.cells) (ht : w.there b 0 16) (h : wpList Tryz.prog ops Q rest (a.put op.dst undef) (w.setCells b 0 z.cells.toList)) : wpList Tryz.prog ops Q (op :: rest) a w :=
  wpList_store_mid hgd 73 p q ho b 0 z.cells hx hy ht (sizeT z) (t16_all z) h
set_option maxRecDepth 100000 in
set_option maxHeartbeats 4000000 in
theorem find_ok {w : World} {s : Sl} {l : List Tx} (h : TsIn w s l) (k : K2) : ∀ Wf, Below w.heap.size w Wf → Calls Tryz.prog 39 #[.slice s.a s.n s.c, .string k.1, .string k.2] Wf fun e w' => e = .returned (.tuple #[.agg (findV l k).cells, .bool (findT l k).isSome]) ∧ Below Wf.heap.size Wf w' := by
  intro Wf hbW
  have hn : s.n = l.length := by have := h.r.1; simpa using this
  have hk : l.length ≤ 586406201480 := by have := h.r.2.1; simpa using this
  have HR := Lib.hid h.r.2.2.2
  have HBW := Lib.hid hbW
  obtain ⟨A, n, c⟩ := s
  dsimp only at hn
  subst hn
  obtain ⟨k1, k2⟩ := k
  dsimp only
  obtain ⟨fv, hfv⟩ : ∃ fv, fv = findV l (k1, k2) := ⟨_, rfl⟩
  obtain ⟨ft, hft⟩ : ∃ ft, ft = (findT l (k1, k2)).isSome := ⟨_, rfl⟩
  rw [← hfv, ← hft]
  have HFV := Lib.hid hfv
  have HFT := Lib.hid hft
  obtain ⟨w1, hw1⟩ : ∃ w1 : World, w1 = Wf.alloc (.cells (T16.cells zT) 73) := ⟨_, rfl⟩
  have HB1 := Lib.hid (show Below Wf.heap.size Wf w1 by rw [hw1]; exact (Below.refl _ _).alloc (Nat.le_refl _) _)
  have HX1 := Lib.hid (show w1.heap[Wf.heap.size]? = some (.cells (T16.cells zT) 73 (0, 0)) by rw [hw1]; exact heap_new_at _ _ _ rfl)
  have HTH := Lib.hid (there_of_block HX1.out (n := 16) rfl)
  have HW1 := Lib.hid hw1
  clear h hbW hfv hft hw1
  go_enter Tryz.func39, Tryz.ntmps39
  go_upto_region 1 with fail
  rw [← zeroT16, ← HW1.out]
  go_wp2_with fail
  go_loopw [11] (fun i wr => ∃ k : Nat, k ≤ l.length ∧ i = .int .i64 k ∧ wr = w1 ∧ ∀ (j : Nat) (y : Tx), j < k → l[j]? = some y → same2 y.1.k (k1, k2) = false) (fun i _ => l.length - (intOf i).toNat)
  case atStart => exact ⟨0, by omega, rfl, rfl, fun j y h => absurd h (by omega)⟩
  case round =>
    obtain ⟨k, hk', rfl, rfl, hno⟩ := hrel
    have HNO := Lib.hid hno
    clear hno
    by_cases hlt : k < l.length
    · obtain ⟨ad, hla, hadl, hcell⟩ := HR.out (by simpa using (by omega : 0 < l.length))
      have hy : l[k]? = some l[k] := List.getElem?_eq_getElem hlt
      generalize l[k] = x at hy
      have HY := Lib.hid hy
      obtain ⟨y, rest⟩ := x
      have hrow : (l.map fun x => x.1.cells.toList)[k]? = some y.cells.toList := by rw [List.getElem?_map, hy]; rfl
      have hbr : Below w.heap.size w wr := HBW.out.trans (HB1.out.mono HBW.out.size)
      have HEC := Lib.hid (show Holds wr (ad.add (k * 16)) y.cells from fun d u hd => by rw [at2_add]; exact (hbr.cell (p := at2 ad (k * 16) d) (by rw [at2_block]; exact hadl)).trans (hcell k d _ _ hrow (by simpa using hd)))
      have hadr : ad.block < wr.heap.size := Nat.lt_of_lt_of_le hadl hbr.size
      have c3 : wr.cell? ⟨(ad.add (k * 16)).block, (ad.add (k * 16)).off + 3, none⟩ = some (.string y.typ) := (hbr.cell (p := at2 ad (k * 16) 3) (by rw [at2_block]; exact hadl)).trans (hcell k 3 _ _ hrow rfl)
      have c4 : wr.cell? ⟨(ad.add (k * 16)).block, (ad.add (k * 16)).off + 4, none⟩ = some (.string y.key) := (hbr.cell (p := at2 ad (k * 16) 4) (by rw [at2_block]; exact hadl)).trans (hcell k 4 _ _ hrow rfl)
      subst hla
      have HNEXT := Lib.hid (fun (hs : same2 y.k (k1, k2) = false) (j : Nat) (z : Tx) (hj : j < k + 1) (hz : l[j]? = some z) => show same2 z.1.k (k1, k2) = false from by
        by_cases hjk : j = k
        · subst hjk
          rw [HY.out] at hz
          injection hz with hz
          rw [← hz]
          exact hs
        · exact HNO.out j z (by omega) hz)
      clear hy hrow hbr hcell
      cases h1 : (y.typ.toList == k1.toList) with
      | false =>
        have HS := Lib.hid (show same2 y.k (k1, k2) = false by unfold same2; dsimp only; rw [h1]; rfl)
        go_wp2_with fail
        exact ⟨⟨k + 1, by omega, by go_num, (by first | rfl | trivial), HNEXT.out HS.out⟩, by simp [intOf]; omega⟩
      | true =>
        cases h2 : (y.key.toList == k2.toList) with
        | false =>
          have HS := Lib.hid (show same2 y.k (k1, k2) = false by unfold same2; dsimp only; rw [h1, h2]; rfl)
          go_wp2_with fail
          exact ⟨⟨k + 1, by omega, by go_num, (by first | rfl | trivial), HNEXT.out HS.out⟩, by simp [intOf]; omega⟩
        | true =>
          have HS := Lib.hid (show same2 y.k (k1, k2) = true by unfold same2; dsimp only; rw [h1, h2]; rfl)
          have hf := findT_first HY.out HS.out HNO.out
          have HFV2 := Lib.hid (show fv = y by rw [HFV.out]; unfold findV; rw [hf])
          have HFT2 := Lib.hid (show ft = true by rw [HFT.out, hf]; rfl)
          have HFIN := Lib.hid (setCells_whole (cs := y.cells) HX1.out rfl)
          have HBF := Lib.hid (stored_below (r := Wf.heap.size) HB1.out (setCells_grown Wf.heap.size y.cells.toList 0 wr) (Nat.le_refl _) HB1.out.size)
          clear hf
          go_wp2_with (first | (refine wpList_load_at rfl _ _ rfl _ rfl y.cells _ HEC.out Tryz.underlying73 rfl (sizeT _) ?_) | (refine wpList_store_t16 rfl _ _ rfl Wf.heap.size y rfl rfl HTH.out ?_))
          refine bodyPost_ret (results_row_tmp rfl _ _ Wf.heap.size 73 y.cells (0, 0) _ rfl HFIN.out Tryz.underlying73 rfl (sizeT _)) rfl ?_
          exact ⟨by rw [HFV2.out, HFT2.out]; rfl, HBF.out⟩
    · obtain rfl : k = l.length := by omega
      have hf : findT l (k1, k2) = none := List.find?_eq_none.2 fun x hx => by
        obtain ⟨i, hi⟩ := List.mem_iff_getElem?.1 hx
        rw [HNO.out i x (List.getElem?_eq_some_iff.1 hi).1 hi]
        simp
      have HFV2 := Lib.hid (show fv = zT by rw [HFV.out]; unfold findV; rw [hf])
      have HFT2 := Lib.hid (show ft = false by rw [HFT.out, hf]; rfl)
      have HFIN := Lib.hid (setCells_whole (cs := T16.cells zT) HX1.out rfl)
      have HBF := Lib.hid (stored_below (r := Wf.heap.size) HB1.out (setCells_grown Wf.heap.size (T16.cells zT).toList 0 wr) (Nat.le_refl _) HB1.out.size)
      clear hf
      go_wp2_with (refine wpList_store_t16 rfl _ _ rfl Wf.heap.size zT rfl rfl HTH.out ?_)
      refine bodyPost_ret (results_row_tmp rfl _ _ Wf.heap.size 73 (T16.cells zT) (0, 0) _ rfl HFIN.out Tryz.underlying73 rfl (sizeT _)) rfl ?_
      exact ⟨by rw [HFV2.out, HFT2.out]; rfl, HBF.out⟩
end Go.Proofs.YtgnoaeldmpbjmaaGreatDoor
/- The document's Main: a room's main alias, by a state. -/
set_option linter.unusedVariables false
set_option linter.unusedSimpArgs false
namespace Go.Proofs.YtgnoaeldmpbjmaaGreatDoor
open Go.RowKit

/-- The content of a pair's event, of a state. -/
def contT (l : List Tx) (k : K2) : V := match findT l k with | some x => x.2.1 | none => nilV
theorem RepI.nil (w : World) : RepI w zV6 nilV :=
  .mk zV6 [] [] [] [] (by show (0 : Nat) ≤ _; omega) ⟨rfl, by simp, by simp, fun h => absurd h (by simp)⟩ ⟨rfl, by simp, by simp, fun h => absurd h (by simp)⟩ rfl rfl (by simp) (by simp) (by simp)
theorem RepI.text {w : World} {x : V6} {v : V} (h : RepI w x v) : ∀ k y i t L M, v = .mk k y i t L M → t.size ≤ 9223372036854775807 := by
  cases h with
  | mk x L M xs ms ht => intro k y i t L' M' e; injection e with _ _ _ e; rw [← e]; exact ht
theorem RepI.str_size {w : World} {x : V6} {v : V} (h : RepI w x v) (key : ByteArray) : (v.str key).size ≤ 9223372036854775807 := by
  unfold V.str
  cases hg : v.get key with
  | none => show (0 : Nat) ≤ _; omega
  | some u =>
    cases h with
    | mk x L M xs ms ht hL hM lenL lenM elL keyM elM =>
      have hg' : (if x.kind = 5 then (M.find? fun kv => kv.1.toList == key.toList).map (·.2) else none) = some u := hg
      split at hg'
      · obtain ⟨kv, hkv, hu⟩ := Option.map_eq_some_iff.1 hg'
        obtain ⟨i, hi⟩ := List.mem_iff_getElem?.1 (List.mem_of_find?_eq_some hkv)
        obtain ⟨m, hm⟩ : ∃ m, ms[i]? = some m := ⟨_, List.getElem?_eq_getElem (by rw [lenM]; exact (List.getElem?_eq_some_iff.1 hi).1)⟩
        have hr := elM i m kv hm hi
        cases u with
        | mk k y n t L' M' =>
          have ht := hr.text k y n t L' M' hu
          dsimp only
          split
          · exact ht
          · show (0 : Nat) ≤ _; omega
      · cases hg'
theorem mainOf_idx (l : List En) (room tx : ByteArray) : (idxE l tx < 0 → mainOf l room tx = ⟨#[]⟩) ∧ (∀ (i : Nat) (x : En), idxE l tx = i → l[i]? = some x → mainOf l room tx = if x.r.toList == room.toList then tx else ⟨#[]⟩) ∧ (idxE l tx < 0 ∨ ∃ i x, idxE l tx = ((i : Nat) : Int) ∧ l[i]? = some x) := by
  unfold idxE
  cases hf : l.findIdx? (aliasIs tx) with
  | none =>
    have hn : getE l tx = none := List.find?_eq_none.2 fun x hx => by
      have := List.findIdx?_eq_none_iff.1 hf x hx
      simpa using this
    refine ⟨fun _ => by unfold mainOf; rw [hn], fun i x h => by dsimp only at h; omega, .inl (by dsimp only; omega)⟩
  | some j =>
    obtain ⟨hj, hp, hno⟩ := List.findIdx?_eq_some_iff_getElem.1 hf
    have hg : getE l tx = some l[j] := find_first (List.getElem?_eq_getElem hj) hp (fun i y hi hy => by
      have h1 := List.getElem?_eq_some_iff.1 hy
      have := hno i hi
      rw [h1.2] at this
      simpa using this)
    refine ⟨fun h => by dsimp only at h; omega, fun i x h hx => ?_, .inr ⟨j, l[j], rfl, List.getElem?_eq_getElem hj⟩⟩
    have hij : i = j := by dsimp only at h; omega
    subst hij
    rw [List.getElem?_eq_getElem hj] at hx
    injection hx with hx
    unfold mainOf
    rw [hg, hx]
set_option maxRecDepth 100000 in
set_option maxHeartbeats 4000000 in
theorem rmain_calls (w : World) (server : ByteArray) (most : Int) (s : Sl) (Q : Nat → Prop) (l : List En) (room : ByteArray) (hr : RowOf w Q 105 3 s (rowsE l)) (hn : l.length ≤ 1000000) {s2 : Sl} {lst : List Tx} (hts : TsIn w s2 lst) :
    Calls Tryz.prog 16 #[.agg (tCells server most s), .string room, .slice s2.a s2.n s2.c] w fun e w' => e = .returned (.string (mainOf l room ((contT lst canonK).str aliasB))) ∧ Below w.heap.size w w' := by
  obtain ⟨w1, hw1⟩ : ∃ w1 : World, w1 = w.alloc (.cells (tCells server most s) 34) := ⟨_, rfl⟩
  have hb1 : Below w.heap.size w w1 := by rw [hw1]; exact (Below.refl _ _).alloc (Nat.le_refl _) _
  have HX1 := Lib.hid (show w1.heap[w.heap.size]? = some (.cells (tCells server most s) 34 (0, 0)) by rw [hw1]; exact heap_new_at _ _ _ rfl)
  have HFI := Lib.hid (find_ok hts canonK w1 hb1)
  have HRI := Lib.hid (fun (W' : World) (hW : Below w.heap.size w W') => show RepI W' (findV lst canonK).content (contT lst canonK) from by
    unfold findV contT
    cases hf : findT lst canonK with
    | none => exact RepI.nil W'
    | some x => exact ((hts.e x (List.mem_of_find?_eq_some hf)).under hW rfl).c)
  have HROW := Lib.hid (fun (W' : World) (hW : Below w.heap.size w W') => hr.same hW.size (fun g hg _ => hW.block g hg))
  have HN := Lib.hid hn
  have HB1 := Lib.hid hb1
  have HW1 := Lib.hid hw1
  obtain ⟨fv, hfv⟩ : ∃ fv, fv = findV lst canonK := ⟨_, rfl⟩
  obtain ⟨ft, hft⟩ : ∃ ft, ft = (findT lst canonK).isSome := ⟨_, rfl⟩
  obtain ⟨ct, hct⟩ : ∃ ct, ct = contT lst canonK := ⟨_, rfl⟩
  rw [← hfv, ← hft] at HFI
  rw [← hfv, ← hct] at HRI
  rw [← hct]
  clear hr hn hts hb1 hw1 hfv hft hct
  go_enter Tryz.func16, Tryz.ntmps16
  go_upto_region 1 with fail
  rw [← HW1.out]
  go_wp2_with fail
  refine HFI.out.mono ?_
  rintro e w2 ⟨rfl, hb2⟩
  obtain ⟨wa, hwa⟩ : ∃ wa : World, wa = w2.alloc (.cells fv.cells 73) := ⟨_, rfl⟩
  have hba : Below w2.heap.size w2 wa := by rw [hwa]; exact (Below.refl _ _).alloc (Nat.le_refl _) _
  have HXA := Lib.hid (show wa.heap[w2.heap.size]? = some (.cells fv.cells 73 (0, 0)) by rw [hwa]; exact heap_new_at _ _ _ rfl)
  have hb1 := HB1.out
  have HBA := Lib.hid (hb1.trans ((hb2.trans (hba.mono hb2.size)).mono hb1.size))
  have HX2 := Lib.hid (((hb2.trans (hba.mono hb2.size)).block _ (blk_lt HX1.out)).trans HX1.out)
  have HSTR := Lib.hid (rstr_ok (HRI.out wa HBA.out) aliasB wa (Below.refl _ _))
  have HWA := Lib.hid hwa
  clear hb1 hb2 hba hwa HFI
  go_upto_region 2 with fail
  rw [← HWA.out]
  go_wp2_with (refine wpList_load_at rfl _ _ rfl _ rfl (V6.cells fv.content) _ (Holds.of_block HXA.out).content Tryz.underlying71 rfl (sizeV6 _) ?_)
  refine HSTR.out.mono ?_
  rintro e w3 ⟨rfl, hb3⟩
  have HB3 := Lib.hid (HBA.out.trans (hb3.mono HBA.out.size))
  have HX3 := Lib.hid ((hb3.block _ (blk_lt HX2.out)).trans HX2.out)
  have HAT := Lib.hid (rat_calls w3 server most s Q l (ct.str aliasB) (HROW.out w3 HB3.out) HN.out)
  clear hb3 HSTR
  obtain ⟨tx, htx⟩ : ∃ tx, tx = ct.str aliasB := ⟨_, rfl⟩
  rw [← htx] at HAT ⊢
  have HMI := Lib.hid (mainOf_idx l room tx)
  obtain ⟨mo, hmo⟩ : ∃ mo, mo = mainOf l room tx := ⟨_, rfl⟩
  rw [← hmo] at HMI
  have HMO := Lib.hid hmo
  have HTX := Lib.hid htx
  obtain ⟨ix, hix⟩ : ∃ ix, ix = idxE l tx := ⟨_, rfl⟩
  rw [← hix] at HAT HMI
  clear htx hmo hix
  have t0 := cell_at (j := 0) HX3.out rfl
  have t1 := cell_at (j := 1) HX3.out rfl
  have t2 : w3.cell? ⟨w.heap.size, 2, none⟩ = some (.slice s.a s.n s.c) := cell_at (j := 2) HX3.out rfl
  try simp only [Sl.val] at t2
  go_wp2_with fail
  refine HAT.out.mono ?_
  rintro e w4 ⟨rfl, hb4⟩
  have HB4 := Lib.hid (HB3.out.trans (hb4.mono HB3.out.size))
  have HX4 := Lib.hid ((hb4.block _ (blk_lt HX3.out)).trans HX3.out)
  have hpost : mainOf l room (ct.str aliasB) = mo := by rw [HMO.out, HTX.out]
  have HPO := Lib.hid hpost
  have t2 : w4.cell? ⟨w.heap.size, 2, none⟩ = some (.slice s.a s.n s.c) := cell_at (j := 2) HX4.out rfl
  try simp only [Sl.val] at t2
  clear t0 t1 hb4 hpost HAT
  rcases HMI.out.2.2 with hneg | ⟨i, x, hi, hx⟩
  · have HV := Lib.hid (HMI.out.1 hneg)
    have hd : decide (ix < 0) = true := by simpa using hneg
    go_wp2_with fail
    go_ret
    exact ⟨by rw [HPO.out, HV.out]; rfl, HB4.out⟩
  · have HV := Lib.hid (HMI.out.2.1 i x hi hx)
    subst hi
    have hil := (List.getElem?_eq_some_iff.1 hx).1
    have hrow := HROW.out w4 HB4.out
    have hnl : s.n = l.length := by have := hrow.1; simpa using this
    have hnn := HN.out
    obtain ⟨r, ha⟩ : ∃ r, s.a = some ⟨r, 0, none⟩ := by
      rcases hrow.2.2 with ⟨_, hnil⟩ | ⟨r, h1, _⟩
      · have := congrArg List.length hnil; simp at this; subst this; simp at hil
      · exact ⟨r, h1⟩
    obtain ⟨_, hrl, hrw⟩ := hrow.at ha
    have hyc : (rowsE l)[i]? = some x.cells.toList := by simp [hx]
    have c1 : w4.cell? ⟨r, i * 3 + 1, none⟩ = some (.string x.r) := hrw.cell (d := 1) hyc rfl
    rw [ha, hnl] at t2
    clear hx hrow hyc hrw ha hnl
    cases hr : (x.r.toList == room.toList) with
    | true =>
      have hrn : (x.r.toList != room.toList) = false := by simp [bne, hr]
      have HVV := Lib.hid (show mo = tx by rw [HV.out, hr]; rfl)
      go_wp2_with fail
      go_ret
      exact ⟨by rw [HPO.out, HVV.out]; rfl, HB4.out⟩
    | false =>
      have hrn : (x.r.toList != room.toList) = true := by simp [bne, hr]
      have HVV := Lib.hid (show mo = ⟨#[]⟩ by rw [HV.out, hr]; rfl)
      go_wp2_with fail
      go_ret
      exact ⟨by rw [HPO.out, HVV.out]; rfl, HB4.out⟩
end Go.Proofs.YtgnoaeldmpbjmaaGreatDoor
/- enfiladelaw10.Real: a state of the document made the program's. -/
set_option linter.unusedVariables false
set_option linter.unusedSimpArgs false
namespace Go.Proofs.YtgnoaeldmpbjmaaGreatDoor
open Go.RowKit

set_option maxRecDepth 100000 in
set_option maxHeartbeats 4000000 in
theorem stReal_ok {w : World} {s : Sl} {l : List Tx} (h : TsIn w s l) (h2 : NoTwo l) : ∀ Wf, Below w.heap.size w Wf → Calls Tryz.prog 14 #[.slice s.a s.n s.c] Wf fun e w' => ∃ zs : List En2, e = .returned (.map (some Wf.heap.size)) ∧ zs.map (·.1) = l.reverse ∧ StR w' (fun g => Wf.heap.size ≤ g ∧ g ≠ Wf.heap.size) Wf.heap.size zs ∧ Below Wf.heap.size Wf w' := by
  intro Wf hbW
  have hn : s.n = l.length := by have := h.r.1; simpa using this
  have hk : l.length ≤ 586406201480 := by have := h.r.2.1; simpa using this
  have HR := Lib.hid h.r.2.2.2
  have HTS := Lib.hid h
  have HTWO := Lib.hid h2
  have HBW := Lib.hid hbW
  obtain ⟨A, n, c⟩ := s
  dsimp only at hn
  subst hn
  clear h h2 hbW
  have hmm := @run_makeMap Tryz.prog
  go_enter Tryz.func14, Tryz.ntmps14
  go_wp2_with fail
  clear hmm
  go_loopw [9] (fun i wr => ∃ (k : Nat) (zs : List En2), k ≤ l.length ∧ i = .int .i64 k ∧ zs.map (·.1) = (l.take k).reverse ∧ StR wr (fun g => Wf.heap.size ≤ g ∧ g ≠ Wf.heap.size) Wf.heap.size zs ∧ Below Wf.heap.size Wf wr) (fun i _ => l.length - (intOf i).toNat)
  case atStart => exact ⟨0, [], by omega, rfl, rfl, ⟨MapK.made _, by simp, by simp⟩, (Below.refl _ _).alloc (Nat.le_refl _) _⟩
  case round =>
    obtain ⟨k, zs, hk', rfl, hzs, hst, hb⟩ := hrel
    have HZS := Lib.hid hzs
    by_cases hlt : k < l.length
    · obtain ⟨ad, hla, hadl, hcell⟩ := HR.out (by simpa using (by omega : 0 < l.length))
      have hy : l[k]? = some l[k] := List.getElem?_eq_getElem hlt
      have hmem : l[k] ∈ l := List.getElem_mem hlt
      generalize l[k] = x at hy hmem
      have htn := HTS.out.e x hmem
      have htk : l.take (k + 1) = l.take k ++ [x] := by rw [List.take_add_one, hy]; rfl
      have hnew := new_of_two HTWO.out hy
      obtain ⟨y, vv, pp, aa⟩ := x
      have hrow : (l.map fun x => x.1.cells.toList)[k]? = some y.cells.toList := by rw [List.getElem?_map, hy]; rfl
      have hbr : Below w.heap.size w wr := HBW.out.trans (hb.mono HBW.out.size)
      have HEC := Lib.hid (show Holds wr (ad.add (k * 16)) y.cells from fun d u hd => by rw [at2_add]; exact (hbr.cell (p := at2 ad (k * 16) d) (by rw [at2_block]; exact hadl)).trans (hcell k d _ _ hrow (by simpa using hd)))
      have hadr : ad.block < wr.heap.size := Nat.lt_of_lt_of_le hadl hbr.size
      have HEV := Lib.hid (fun (W' : World) (hW : Below w.heap.size w W') => evreal_ok htn W' hW)
      have HKS := Lib.hid htn.ks
      have HTKE := Lib.hid htk
      have HZL := Lib.hid (show zs.length = k by have := congrArg List.length hzs; simpa [Nat.min_eq_left hk'] using this)
      have HNEW := Lib.hid (show ∀ e ∈ zs.map En2.e, e.1 ≠ y.k from fun e he => by
        obtain ⟨z, hz, rfl⟩ := List.mem_map.1 he
        refine hnew z.1 ?_
        have : z.1 ∈ zs.map (·.1) := List.mem_map.2 ⟨z, hz, rfl⟩
        rw [hzs] at this
        simpa using this)
      have HBR := Lib.hid hbr
      have HB := Lib.hid hb
      have HST := Lib.hid hst
      subst hla
      clear hy hmem htn htk hnew hrow hbr hb hst hzs hcell
      go_wp2_with (refine wpList_load_at rfl _ _ rfl _ rfl y.cells _ HEC.out Tryz.underlying73 rfl (sizeT _) ?_)
      obtain ⟨wa, hwa⟩ : ∃ wa : World, wa = wr.alloc (.cells y.cells 73) := ⟨_, rfl⟩
      rw [← hwa]
      have hba : Below wr.heap.size wr wa := by rw [hwa]; exact (Below.refl _ _).alloc (Nat.le_refl _) _
      have hltA : wr.heap.size < wa.heap.size := by rw [hwa]; simp
      have hwfa : Wf.heap.size ≤ wa.heap.size := Nat.le_trans HB.out.size hba.size
      have hwfb : Wf.heap.size < wr.heap.size := HST.out.m.lt
      have HMA := Lib.hid (show Holds wa ⟨wr.heap.size, 0, none⟩ y.cells from Holds.of_block (by rw [hwa]; exact heap_new_at _ _ _ rfl))
      have HBA := Lib.hid (HBR.out.trans (hba.mono HBR.out.size))
      have HBWA := Lib.hid (HB.out.trans (hba.mono HB.out.size))
      have HSA := Lib.hid (HST.out.below hba)
      clear hwa hba
      refine wt_start (S := fun W => Below wa.heap.size wa W) 8 (by kernel_rfl) ⟨by kernel_rfl, by kernel_rfl, by kernel_rfl, by decide⟩ ?_
      intro HTK
      have hS0 : Below wa.heap.size wa wa.drew := (Below.refl _ _).drew
      refine wt_take (i := 0) (v := ?_) HTK.out rfl (by decide) (by kernel_rfl) (by kernel_rfl) (fun _ _ _ h => h) (by exact hS0) (Or.inl ⟨by rfl, ?_⟩) ?_
      rotate_left
      · intro W hSw
        try dsimp only at hSw
        go_simp
        try (with_reducible rfl)
      try simp only [List.getElem_toArray, List.getElem_cons_zero, List.getElem_cons_succ, Act.put, List.setIfInBounds_toArray, List.set_cons_zero, List.set_cons_succ]
      refine wt_take (i := 1) (v := ?_) HTK.out rfl (by decide) (by kernel_rfl) (by kernel_rfl) (fun _ _ _ h => h) (by exact hS0) (Or.inl ⟨by rfl, ?_⟩) ?_
      rotate_left
      · intro W hSw
        try dsimp only at hSw
        go_simp
        try (with_reducible rfl)
      try simp only [List.getElem_toArray, List.getElem_cons_zero, List.getElem_cons_succ, Act.put, List.setIfInBounds_toArray, List.set_cons_zero, List.set_cons_succ]
      refine wt_take (i := 2) (v := ?_) HTK.out rfl (by decide) (by kernel_rfl) (by kernel_rfl) (fun _ _ _ h => h) (by exact hS0) (Or.inl ⟨by rfl, ?_⟩) ?_
      rotate_left
      · intro W hSw
        try dsimp only at hSw
        have q0 : W.cell? ⟨wr.heap.size, 3, none⟩ = some (.string y.typ) := (HMA.out.below hSw (by exact hltA)).cell rfl
        go_simp
        try (with_reducible rfl)
      try simp only [List.getElem_toArray, List.getElem_cons_zero, List.getElem_cons_succ, Act.put, List.setIfInBounds_toArray, List.set_cons_zero, List.set_cons_succ]
      refine wt_take (i := 3) (v := ?_) HTK.out rfl (by decide) (by kernel_rfl) (by kernel_rfl) (fun _ _ _ h => h) (by exact hS0) (Or.inl ⟨by rfl, ?_⟩) ?_
      rotate_left
      · intro W hSw
        try dsimp only at hSw
        go_simp
        try (with_reducible rfl)
      try simp only [List.getElem_toArray, List.getElem_cons_zero, List.getElem_cons_succ, Act.put, List.setIfInBounds_toArray, List.set_cons_zero, List.set_cons_succ]
      refine wt_take (i := 4) (v := ?_) HTK.out rfl (by decide) (by kernel_rfl) (by kernel_rfl) (fun _ _ _ h => h) (by exact hS0) (Or.inl ⟨by rfl, ?_⟩) ?_
      rotate_left
      · intro W hSw
        try dsimp only at hSw
        have q0 : W.cell? ⟨wr.heap.size, 4, none⟩ = some (.string y.key) := (HMA.out.below hSw (by exact hltA)).cell rfl
        go_simp
        try (with_reducible rfl)
      try simp only [List.getElem_toArray, List.getElem_cons_zero, List.getElem_cons_succ, Act.put, List.setIfInBounds_toArray, List.set_cons_zero, List.set_cons_succ]
      refine wt_take (i := 5) (v := ?_) HTK.out rfl (by decide) (by kernel_rfl) (by kernel_rfl) (fun _ _ _ h => h) (by exact hS0) (Or.inl ⟨by rfl, ?_⟩) ?_
      rotate_left
      · intro W hSw
        try dsimp only at hSw
        go_simp
        try (with_reducible rfl)
      try simp only [List.getElem_toArray, List.getElem_cons_zero, List.getElem_cons_succ, Act.put, List.setIfInBounds_toArray, List.set_cons_zero, List.set_cons_succ]
      refine wt_take (i := 6) (v := .agg y.cells) HTK.out rfl (by decide) (by kernel_rfl) (by kernel_rfl) (fun _ _ _ h => h) (by exact hS0) (yieldsIf_load_at (by rfl) _ _ (by rfl) _ (by rfl) y.cells _ (fun W hSw => HMA.out.below hSw (by exact hltA)) Tryz.underlying73 (by rfl) (sizeT _)) ?_
      try simp only [List.getElem_toArray, List.getElem_cons_zero, List.getElem_cons_succ, Act.put, List.setIfInBounds_toArray, List.set_cons_zero, List.set_cons_succ]
      refine wt_ready (rs := [7]) (by kernel_rfl) (by simp) ?_
      refine AllT.cons rfl (by decide) (fun K hK => ?_) ?_
      · go_simp
        go_at_call 38
        refine (HEV.out _ (HBA.out.trans (hS0.mono HBA.out.size))).mono ?_
        rintro e wv ⟨x', sp, sa, rfl, hev, hbz⟩
        have hS1 : Below wa.heap.size wa wv := hS0.trans (hbz.mono hS0.size)
        have HE1 := Lib.hid hev
        clear hev hbz
        refine hK.out _ _ (by exact hS1) ?_
        clear hK K
        try simp only [List.getElem_toArray, List.getElem_cons_zero, List.getElem_cons_succ, Act.put, List.setIfInBounds_toArray, List.set_cons_zero, List.set_cons_succ]
        refine wt_last (k := 8) (by kernel_rfl) (by kernel_rfl) (by decide) rfl (fun K hK => ?_)
        obtain ⟨e, he⟩ : ∃ e : T16, e = { y with content := x', prev := sp, auth := sa } := ⟨_, rfl⟩
        have HST1 := Lib.hid (HSA.out.below hS1)
        have HE2 := Lib.hid (show EvR wv (fun g => Wf.heap.size ≤ g ∧ g ≠ Wf.heap.size) e vv pp aa by rw [he]; exact HE1.out.mono (fun g _ hg => ⟨Nat.le_trans hwfa hg, fun e => by have : wa.heap.size ≤ g := hg; omega⟩))
        refine step_updateK (by rfl) _ _ _ _ (by rfl) 97 Tryz.underlying46 Wf.heap.size (zs.map En2.e) (by rfl) HST1.out.m (by rw [List.length_map, HZL.out]; unfold maxLen; omega) y.k (by rfl) HKS.out HNEW.out (.agg e.cells) (by rw [he]; rfl) ?_
        intro w2 hm2 ht2
        have HS2 := Lib.hid (StR.add (z := ((y, vv, pp, aa), e)) HST1.out hm2 ht2 HE2.out (by rw [he]))
        have HB2 := Lib.hid ((HBWA.out.trans (hS1.mono HBWA.out.size)).trans ((Fr.of_grown (S := fun i => i = Wf.heap.size) (World.mapTurned.grown ht2) (fun r e => (Option.some.inj e).symm)).to_below (HBWA.out.trans (hS1.mono HBWA.out.size)).size (fun k hk e => by omega)))
        clear hm2 ht2
        refine hK.out _ _ ?_
        clear hK K
        try simp only [List.getElem_toArray, List.getElem_cons_zero, List.getElem_cons_succ, Act.put, List.setIfInBounds_toArray, List.set_cons_zero, List.set_cons_succ]
        clear he
        go_wp2_with fail
        exact ⟨⟨k + 1, ((y, vv, pp, aa), e) :: zs, by omega, by go_num, by rw [List.map_cons, HZS.out, HTKE.out]; simp, HS2.out, HB2.out⟩, by simp [intOf]; omega⟩
      exact AllT.nil
    · obtain rfl : k = l.length := by omega
      have HB := Lib.hid hb
      have HST := Lib.hid hst
      clear hb hst hzs
      go_wp2_with fail
      go_ret
      exact ⟨zs, rfl, by rw [HZS.out, List.take_length], HST.out, HB.out⟩
end Go.Proofs.YtgnoaeldmpbjmaaGreatDoor
/- Whether an event that came in is few: some answer. -/
set_option linter.unusedVariables false
set_option linter.unusedSimpArgs false
namespace Go.Proofs.YtgnoaeldmpbjmaaGreatDoor
open Go.RowKit

/-- It returns some answer. -/
def SomeB (e : Ending) : Prop := ∃ b : Bool, e = .returned (.bool b)
theorem index2 (a b : Option Addr) (n c m d : Nat) (w : World) : (Instr.index 125 (.agg #[.slice a n c, .slice b m d]) (.int .i64 0)).run Tryz.prog w = .ok (.slice a n c) w ∧ (Instr.index 125 (.agg #[.slice a n c, .slice b m d]) (.int .i64 1)).run Tryz.prog w = .ok (.slice b m d) w := by
  constructor <;> kernel_rfl
set_option maxRecDepth 100000 in
set_option maxHeartbeats 4000000 in
theorem few05_ok {w : World} {t : T16} {v : V} {p a : List ByteArray} (h : TIn w t v p a) : ∀ W, Below w.heap.size w W → Calls Tryz.prog 26 #[.agg t.cells] W fun e w' => SomeB e ∧ Below W.heap.size W w' := by
  intro W hbW
  have hnp : t.prev.n = p.length := by have := h.pr.1; simpa using this
  have hna : t.auth.n = a.length := by have := h.ar.1; simpa using this
  have hkp : p.length ≤ 8796093022207 := by have := h.pr.2.1; simpa using this
  have hka : a.length ≤ 8796093022207 := by have := h.ar.2.1; simpa using this
  have HPR := Lib.hid h.pr.2.2.2
  have HAR := Lib.hid h.ar.2.2.2
  have HPS := Lib.hid h.ps
  have HAS := Lib.hid h.au
  obtain ⟨z0, z1, z2, z3, z4⟩ := h.z
  have HFV := Lib.hid (fun (W' : World) (hW : Below w.heap.size w W') => fewV_ok h.c 200 W' hW)
  have HBW := Lib.hid hbW
  obtain ⟨tid, troom, tsender, ttyp, tkey, tstate, ⟨ck, cy, ci, ct, ⟨la, ln, lc⟩, ⟨ma, mn, mc⟩⟩, tts, tdep, ⟨pa, pn, pc⟩, ⟨aa, an, ac⟩⟩ := t
  dsimp only at hnp hna z0 z1 z2 z3 z4
  subst hnp hna
  have hix0 := fun (W' : World) => (index2 pa aa p.length pc a.length ac W').1
  have hix1 := fun (W' : World) => (index2 pa aa p.length pc a.length ac W').2
  clear h hbW
  go_enter Tryz.func26, Tryz.ntmps26
  go_wp2_with fail
  have HXC := Lib.hid (show (W.alloc (.cells #[.string tid, .string troom, .string tsender, .string ttyp, .string tkey, .bool tstate, .int .i64 ck, .bool cy, .int .i64 ci, .string ct, .slice la ln lc, .slice ma mn mc, .int .i64 tts, .int .i64 tdep, .slice pa p.length pc, .slice aa a.length ac] 73)).heap[W.heap.size]? = some (.cells #[.string tid, .string troom, .string tsender, .string ttyp, .string tkey, .bool tstate, .int .i64 ck, .bool cy, .int .i64 ci, .string ct, .slice la ln lc, .slice ma mn mc, .int .i64 tts, .int .i64 tdep, .slice pa p.length pc, .slice aa a.length ac] 73 (0, 0)) from heap_new_at _ _ _ rfl)
  have HBC := Lib.hid (show Below W.heap.size W (W.alloc (.cells #[.string tid, .string troom, .string tsender, .string ttyp, .string tkey, .bool tstate, .int .i64 ck, .bool cy, .int .i64 ci, .string ct, .slice la ln lc, .slice ma mn mc, .int .i64 tts, .int .i64 tdep, .slice pa p.length pc, .slice aa a.length ac] 73)) from (Below.refl _ _).alloc (Nat.le_refl _) _)
  refine wp_loop_rounds 3 ?_
  rw [rounds_succ]
  go_wp2_with fail
  · go_ret
    exact ⟨⟨_, rfl⟩, HBC.out⟩
  · skip
    go_loopw [20] (fun c wr => ∃ k : Nat, k ≤ p.length ∧ c = .int .i64 k ∧ Below W.heap.size W wr ∧ wr.heap[W.heap.size]? = some (.cells #[.string tid, .string troom, .string tsender, .string ttyp, .string tkey, .bool tstate, .int .i64 ck, .bool cy, .int .i64 ci, .string ct, .slice la ln lc, .slice ma mn mc, .int .i64 tts, .int .i64 tdep, .slice pa p.length pc, .slice aa a.length ac] 73 (0, 0))) (fun c _ => p.length - (intOf c).toNat)
    case atStart => exact ⟨0, by omega, rfl, HBC.out, HXC.out⟩
    case round =>
      obtain ⟨k, hk, rfl, hb, hx⟩ := hrel
      have HB := Lib.hid hb
      have HX := Lib.hid hx
      by_cases hlt : k < p.length
      · obtain ⟨ad, hla, hadl, hcell⟩ := HPR.out (by simpa using (by omega : 0 < p.length))
        have hy : p[k]? = some p[k] := List.getElem?_eq_getElem hlt
        have hmem : p[k] ∈ p := List.getElem_mem hlt
        generalize p[k] = y at hy hmem
        have hysz := HPS.out y hmem
        have hrow : (trows p)[k]? = some [.string y] := by simp [hy]
        have hbr : Below w.heap.size w wr := HBW.out.trans (hb.mono HBW.out.size)
        have s0 : wr.cell? (ad.add k) = some (.string y) := by
          have := (hbr.cell (p := at2 ad (k * 1) 0) (by rw [at2_block]; exact hadl)).trans (hcell k 0 _ _ hrow rfl)
          rw [Nat.mul_one] at this
          exact this
        have s1 : wr.cell? (ad.add (k * 1)) = some (.string y) := by rw [Nat.mul_one]; exact s0
        have hadr : ad.block < wr.heap.size := Nat.lt_of_lt_of_le hadl hbr.size
        subst hla
        clear hy hmem hrow hcell hb hx hbr
        go_wp2_with fail
        all_goals first
        | (go_ret; exact ⟨⟨_, rfl⟩, HB.out⟩)
        | exact ⟨⟨k + 1, by omega, by go_num, HB.out, HX.out⟩, by simp [intOf]; omega⟩
      · obtain rfl : k = p.length := by omega
        clear hb hx
        obtain ⟨wn, hwn⟩ : ∃ wn : World, wn = wr := ⟨_, rfl⟩
        subst hwn
        go_wp2_with fail
        rw [rounds_succ]
        go_wp2_with fail
        · go_ret
          exact ⟨⟨_, rfl⟩, HB.out⟩
        · skip
          go_loopw [20] (fun c wr => ∃ k : Nat, k ≤ a.length ∧ c = .int .i64 k ∧ Below W.heap.size W wr ∧ wr.heap[W.heap.size]? = some (.cells #[.string tid, .string troom, .string tsender, .string ttyp, .string tkey, .bool tstate, .int .i64 ck, .bool cy, .int .i64 ci, .string ct, .slice la ln lc, .slice ma mn mc, .int .i64 tts, .int .i64 tdep, .slice pa p.length pc, .slice aa a.length ac] 73 (0, 0))) (fun c _ => a.length - (intOf c).toNat)
          case atStart => exact ⟨0, by omega, rfl, HB.out, HX.out⟩
          case round =>
            obtain ⟨k, hk, rfl, hb, hx⟩ := hrel
            have HB := Lib.hid hb
            have HX := Lib.hid hx
            by_cases hlt : k < a.length
            · obtain ⟨ad, hla, hadl, hcell⟩ := HAR.out (by simpa using (by omega : 0 < a.length))
              have hy : a[k]? = some a[k] := List.getElem?_eq_getElem hlt
              have hmem : a[k] ∈ a := List.getElem_mem hlt
              generalize a[k] = y at hy hmem
              have hysz := HAS.out y hmem
              have hrow : (trows a)[k]? = some [.string y] := by simp [hy]
              have hbr : Below w.heap.size w wr := HBW.out.trans (hb.mono HBW.out.size)
              have s0 : wr.cell? (ad.add k) = some (.string y) := by
                have := (hbr.cell (p := at2 ad (k * 1) 0) (by rw [at2_block]; exact hadl)).trans (hcell k 0 _ _ hrow rfl)
                rw [Nat.mul_one] at this
                exact this
              have s1 : wr.cell? (ad.add (k * 1)) = some (.string y) := by rw [Nat.mul_one]; exact s0
              have hadr : ad.block < wr.heap.size := Nat.lt_of_lt_of_le hadl hbr.size
              subst hla
              clear hy hmem hrow hcell hb hx hbr
              go_wp2_with fail
              all_goals first
              | (go_ret; exact ⟨⟨_, rfl⟩, HB.out⟩)
              | exact ⟨⟨k + 1, by omega, by go_num, HB.out, HX.out⟩, by simp [intOf]; omega⟩
            · obtain rfl : k = a.length := by omega
              clear hb hx
              obtain ⟨wn, hwn⟩ : ∃ wn : World, wn = wr := ⟨_, rfl⟩
              subst hwn
              go_wp2_with fail
              rw [rounds_succ]
              have x0 := cell_at (j := 0) HX.out rfl
              have x1 := cell_at (j := 1) HX.out rfl
              have x2 := cell_at (j := 2) HX.out rfl
              have x3 := cell_at (j := 3) HX.out rfl
              have x4 := cell_at (j := 4) HX.out rfl
              have x6 := cell_at (j := 6) HX.out rfl
              have x7 := cell_at (j := 7) HX.out rfl
              have x8 := cell_at (j := 8) HX.out rfl
              have x9 := cell_at (j := 9) HX.out rfl
              have x10 := cell_at (j := 10) HX.out rfl
              have x11 := cell_at (j := 11) HX.out rfl
              go_wp2_with fail
              all_goals first
              | (go_ret; exact ⟨⟨_, rfl⟩, HB.out⟩)
              | (refine (HFV.out wn (HBW.out.trans (HB.out.mono HBW.out.size))).mono ?_
                 rintro e wz ⟨⟨bz, rfl⟩, hbz⟩
                 go_wp2_with fail
                 go_ret
                 exact ⟨⟨_, rfl⟩, HB.out.trans (hbz.mono HB.out.size)⟩)
end Go.Proofs.YtgnoaeldmpbjmaaGreatDoor
/- Whether events that came in are few: some answer; if it is yes there are no more than may be. -/
set_option linter.unusedVariables false
set_option linter.unusedSimpArgs false
namespace Go.Proofs.YtgnoaeldmpbjmaaGreatDoor
open Go.RowKit

def SomeFew (n : Nat) (most : Int) (e : Ending) : Prop := ∃ b : Bool, e = .returned (.bool b) ∧ (b = true → (n : Int) ≤ most)
set_option maxRecDepth 100000 in
set_option maxHeartbeats 4000000 in
theorem few10_ok {w : World} {s : Sl} {l : List (T16 × V × List ByteArray × List ByteArray)} (h : TsIn w s l) (most : Int) : ∀ W, Below w.heap.size w W → Calls Tryz.prog 8 #[.slice s.a s.n s.c, .int .i64 most] W fun e w' => SomeFew l.length most e ∧ Below W.heap.size W w' := by
  intro W hbW
  have hn : s.n = l.length := by have := h.r.1; simpa using this
  have hk : l.length ≤ 586406201480 := by have := h.r.2.1; simpa using this
  have HR := Lib.hid h.r.2.2.2
  have HE := Lib.hid h.e
  have HBW := Lib.hid hbW
  obtain ⟨A, n, c⟩ := s
  dsimp only at hn
  subst hn
  clear h hbW
  go_enter Tryz.func8, Tryz.ntmps8
  go_wp2_with fail
  go_loopw [9] (fun v wr => ∃ k : Nat, k ≤ l.length ∧ v = .int .i64 k ∧ Below W.heap.size W wr) (fun v _ => l.length - (intOf v).toNat)
  case atStart => exact ⟨0, by omega, rfl, Below.refl _ _⟩
  case round =>
    obtain ⟨k, hk, rfl, hb⟩ := hrel
    by_cases hlt : k < l.length
    · obtain ⟨ad, hla, hadl, hcell⟩ := HR.out (by simpa using (by omega : 0 < l.length))
      have hy : l[k]? = some l[k] := List.getElem?_eq_getElem hlt
      have hmem : l[k] ∈ l := List.getElem_mem hlt
      generalize l[k] = z at hy hmem
      have hte := HE.out z hmem
      obtain ⟨y, vv, pp, aa⟩ := z
      have HF := Lib.hid (fun (W' : World) (hW : Below w.heap.size w W') => few05_ok hte W' hW)
      have hrow : (l.map fun x => x.1.cells.toList)[k]? = some y.cells.toList := by rw [List.getElem?_map, hy]; rfl
      have hbr : Below w.heap.size w wr := HBW.out.trans (hb.mono HBW.out.size)
      have c0 : wr.cell? (ad.add (k * 16)) = some (.string y.id) := (hbr.cell (p := at2 ad (k * 16) 0) (by rw [at2_block]; exact hadl)).trans (hcell k 0 _ _ hrow rfl)
      have c1 : wr.cell? ⟨(ad.add (k * 16)).block, (ad.add (k * 16)).off + 1, none⟩ = some (.string y.room) := (hbr.cell (p := at2 ad (k * 16) 1) (by rw [at2_block]; exact hadl)).trans (hcell k 1 _ _ hrow rfl)
      have c2 : wr.cell? ⟨(ad.add (k * 16)).block, (ad.add (k * 16)).off + 2, none⟩ = some (.string y.sender) := (hbr.cell (p := at2 ad (k * 16) 2) (by rw [at2_block]; exact hadl)).trans (hcell k 2 _ _ hrow rfl)
      have c3 : wr.cell? ⟨(ad.add (k * 16)).block, (ad.add (k * 16)).off + 3, none⟩ = some (.string y.typ) := (hbr.cell (p := at2 ad (k * 16) 3) (by rw [at2_block]; exact hadl)).trans (hcell k 3 _ _ hrow rfl)
      have c4 : wr.cell? ⟨(ad.add (k * 16)).block, (ad.add (k * 16)).off + 4, none⟩ = some (.string y.key) := (hbr.cell (p := at2 ad (k * 16) 4) (by rw [at2_block]; exact hadl)).trans (hcell k 4 _ _ hrow rfl)
      have c5 : wr.cell? ⟨(ad.add (k * 16)).block, (ad.add (k * 16)).off + 5, none⟩ = some (.bool y.state) := (hbr.cell (p := at2 ad (k * 16) 5) (by rw [at2_block]; exact hadl)).trans (hcell k 5 _ _ hrow rfl)
      have c6 : wr.cell? ⟨(ad.add (k * 16)).block, (ad.add (k * 16)).off + 6, none⟩ = some (.int .i64 y.content.kind) := (hbr.cell (p := at2 ad (k * 16) 6) (by rw [at2_block]; exact hadl)).trans (hcell k 6 _ _ hrow rfl)
      have c7 : wr.cell? ⟨(ad.add (k * 16)).block, (ad.add (k * 16)).off + 7, none⟩ = some (.bool y.content.yes) := (hbr.cell (p := at2 ad (k * 16) 7) (by rw [at2_block]; exact hadl)).trans (hcell k 7 _ _ hrow rfl)
      have c8 : wr.cell? ⟨(ad.add (k * 16)).block, (ad.add (k * 16)).off + 8, none⟩ = some (.int .i64 y.content.int) := (hbr.cell (p := at2 ad (k * 16) 8) (by rw [at2_block]; exact hadl)).trans (hcell k 8 _ _ hrow rfl)
      have c9 : wr.cell? ⟨(ad.add (k * 16)).block, (ad.add (k * 16)).off + 9, none⟩ = some (.string y.content.text) := (hbr.cell (p := at2 ad (k * 16) 9) (by rw [at2_block]; exact hadl)).trans (hcell k 9 _ _ hrow rfl)
      have c10 : wr.cell? ⟨(ad.add (k * 16)).block, (ad.add (k * 16)).off + 10, none⟩ = some (.slice y.content.list.a y.content.list.n y.content.list.c) := (hbr.cell (p := at2 ad (k * 16) 10) (by rw [at2_block]; exact hadl)).trans (hcell k 10 _ _ hrow rfl)
      have c11 : wr.cell? ⟨(ad.add (k * 16)).block, (ad.add (k * 16)).off + 11, none⟩ = some (.slice y.content.map.a y.content.map.n y.content.map.c) := (hbr.cell (p := at2 ad (k * 16) 11) (by rw [at2_block]; exact hadl)).trans (hcell k 11 _ _ hrow rfl)
      have c12 : wr.cell? ⟨(ad.add (k * 16)).block, (ad.add (k * 16)).off + 12, none⟩ = some (.int .i64 y.ts) := (hbr.cell (p := at2 ad (k * 16) 12) (by rw [at2_block]; exact hadl)).trans (hcell k 12 _ _ hrow rfl)
      have c13 : wr.cell? ⟨(ad.add (k * 16)).block, (ad.add (k * 16)).off + 13, none⟩ = some (.int .i64 y.depth) := (hbr.cell (p := at2 ad (k * 16) 13) (by rw [at2_block]; exact hadl)).trans (hcell k 13 _ _ hrow rfl)
      have c14 : wr.cell? ⟨(ad.add (k * 16)).block, (ad.add (k * 16)).off + 14, none⟩ = some (.slice y.prev.a y.prev.n y.prev.c) := (hbr.cell (p := at2 ad (k * 16) 14) (by rw [at2_block]; exact hadl)).trans (hcell k 14 _ _ hrow rfl)
      have c15 : wr.cell? ⟨(ad.add (k * 16)).block, (ad.add (k * 16)).off + 15, none⟩ = some (.slice y.auth.a y.auth.n y.auth.c) := (hbr.cell (p := at2 ad (k * 16) 15) (by rw [at2_block]; exact hadl)).trans (hcell k 15 _ _ hrow rfl)
      have HB := Lib.hid hb
      have HBR := Lib.hid hbr
      have hadr : ad.block < wr.heap.size := Nat.lt_of_lt_of_le hadl hbr.size
      subst hla
      clear hy hmem hte hrow hcell hb hbr
      go_wp2_with fail
      have hbA : Below wr.heap.size wr (wr.alloc (.cells #[.string y.id, .string y.room, .string y.sender, .string y.typ, .string y.key, .bool y.state, .int .i64 y.content.kind, .bool y.content.yes, .int .i64 y.content.int, .string y.content.text, .slice y.content.list.a y.content.list.n y.content.list.c, .slice y.content.map.a y.content.map.n y.content.map.c, .int .i64 y.ts, .int .i64 y.depth, .slice y.prev.a y.prev.n y.prev.c, .slice y.auth.a y.auth.n y.auth.c] 73)) := (Below.refl _ _).alloc (Nat.le_refl _) _
      refine (HF.out _ (HBR.out.trans (hbA.mono HBR.out.size))).mono ?_
      rintro e wz ⟨⟨b, rfl⟩, hbz⟩
      have HBZ := Lib.hid (HB.out.trans ((hbA.trans (hbz.mono (by simp))).mono HB.out.size))
      clear hbA hbz
      cases b with
      | true =>
        go_wp2_with fail
        exact ⟨⟨k + 1, by omega, by go_num, HBZ.out⟩, by simp [intOf]; omega⟩
      | false =>
        go_wp2_with fail
        go_ret
        exact ⟨⟨_, rfl, fun h => by cases h⟩, HBZ.out⟩
    · obtain rfl : k = l.length := by omega
      have HB := Lib.hid hb
      clear hb
      go_wp2_with fail
      go_ret
      exact ⟨⟨_, rfl, fun h => by simpa using h⟩, HB.out⟩
end Go.Proofs.YtgnoaeldmpbjmaaGreatDoor
/- AliasMains, walked. -/
set_option linter.unusedVariables false
set_option linter.unusedSimpArgs false
namespace Go.Proofs.YtgnoaeldmpbjmaaGreatDoor
open Go.RowKit Go.Maps Go.Sort

def SmallR (l : List En) : Prop := ∀ x ∈ l, x.r.size ≤ maxLen
theorem smallR_do {l : List En} (h : SmallR l) (server : ByteArray) (most : Int) (x : Ac) (hx : x.r.size ≤ maxLen) : SmallR (doL server most l x) := by
  intro y hy
  unfold doL at hy
  split at hy
  · unfold dropL at hy
    split at hy
    · exact h y ((List.mem_filter.1 hy).1)
    · exact h y hy
  · unfold addL at hy
    split at hy
    · rcases mem_ins hy with rfl | hy
      · exact hx
      · exact h y hy
    · exact h y hy
theorem contZ_eq {zs : List En2} {l : List Tx} {k : K2} (h : zs.map (·.1) = l.reverse) (h2 : NoTwo l) : contZ zs k = contT l k := by
  have hd : zs.Pairwise fun x y => x.1.1.k ≠ y.1.1.k := by
    have : (zs.map (·.1)).Pairwise fun x y => x.1.k ≠ y.1.k := by
      rw [h]
      exact List.pairwise_reverse.2 (h2.imp fun h e => h e.symm)
    exact (List.pairwise_map (f := fun z : En2 => z.1) (R := fun x y : Tx => x.1.k ≠ y.1.k)).1 this
  unfold contZ contT
  cases hf : findT l k with
  | none =>
    rw [List.find?_eq_none.2]
    · rfl
    · intro z hz
      have hz1 : z.1 ∈ zs.map (·.1) := List.mem_map.2 ⟨z, hz, rfl⟩
      rw [h] at hz1
      exact List.find?_eq_none.1 hf z.1 (by simpa using hz1)
  | some x =>
    have hx : x ∈ zs.map (·.1) := by rw [h]; simpa using List.mem_of_find?_eq_some hf
    obtain ⟨z, hz, rfl⟩ := List.mem_map.1 hx
    have hk : same2 z.1.1.k k = true := by have := List.find?_some hf; exact this
    rw [contZ_hit hd hz (same2_iff.1 hk)]
    rfl
theorem cont_size {w : World} {s : Sl} {l : List Tx} (h : TsIn w s l) (k : K2) (key : ByteArray) : ((contT l k).str key).size ≤ 9223372036854775807 := by
  unfold contT
  cases hf : findT l k with
  | none => exact (RepI.nil w).str_size key
  | some x => exact (h.e x (List.mem_of_find?_eq_some hf)).c.str_size key
theorem mainOf_cases (l : List En) (room tx : ByteArray) : mainOf l room tx = ⟨#[]⟩ ∨ ∃ x, getE l (mainOf l room tx) = some x ∧ x.r.toList = room.toList := by
  cases hg : getE l tx with
  | none => exact .inl (by unfold mainOf; rw [hg])
  | some x =>
    cases hr : (x.r.toList == room.toList) with
    | false => exact .inl (by unfold mainOf; rw [hg]; simp only [hr]; rfl)
    | true =>
      have hm : mainOf l room tx = tx := by unfold mainOf; rw [hg]; simp only [hr]; rfl
      exact .inr ⟨x, by rw [hm]; exact hg, by simpa using hr⟩
theorem mainOf_size (l : List En) (room tx : ByteArray) (h : tx.size ≤ 9223372036854775807) : (mainOf l room tx).size ≤ maxLen := by
  unfold mainOf
  split
  · split
    · exact h
    · show (0 : Nat) ≤ _; omega
  · show (0 : Nat) ≤ _; omega
set_option maxRecDepth 100000 in
set_option maxHeartbeats 2000000 in
theorem mains_many (w : World) (a : Option Addr) (c : Nat) (l : List Ac) (hin : InA w a l.length l) (hm : Mx w) (het : Et w) (room : ByteArray) {s2 : Sl} {lst : List Tx} (hts : TsIn w s2 lst) (hf : fewA l = false) : Calls Tryz.prog 3 #[.slice a l.length c, .string room, .slice s2.a s2.n s2.c] w fun e w' => e = .returned (.bool true) ∧ Below w.heap.size w w' := by
  have HP := Lib.hid hm.pos
  have HM := Lib.hid hm
  have HIN := Lib.hid hin
  have HF := Lib.hid hf
  clear hin hm het hf
  go_enter Tryz.func3, Tryz.ntmps3
  go_wp2_with fail
  refine (awake_calls w HM.out).mono ?_
  rintro e w1 ⟨rfl, hb⟩
  have HB := Lib.hid hb
  clear hb
  go_wp2_with fail
  have h2 := fewA_calls w1 a c l (HIN.out.below HB.out rfl)
  rw [HF.out] at h2
  refine h2.mono ?_
  rintro e w2 ⟨rfl, hb⟩
  have HB2 := Lib.hid (HB.out.trans (hb.mono HB.out.size))
  clear hb h2
  go_wp2_with fail
  refine (awake_calls w2 (HM.out.below HB2.out HP.out)).mono ?_
  rintro e w3 ⟨rfl, hb⟩
  have HB3 := Lib.hid (HB2.out.trans (hb.mono HB2.out.size))
  clear hb
  go_wp2_with fail
  go_ret
  exact ⟨rfl, HB3.out⟩
set_option maxRecDepth 100000 in
set_option maxHeartbeats 2000000 in
theorem mains_long (w : World) (a : Option Addr) (c : Nat) (l : List Ac) (hin : InA w a l.length l) (hm : Mx w) (het : Et w) (room : ByteArray) {s2 : Sl} {lst : List Tx} (hts : TsIn w s2 lst) (hf : fewA l = true) (hroom : ¬ room.size ≤ 150) : Calls Tryz.prog 3 #[.slice a l.length c, .string room, .slice s2.a s2.n s2.c] w fun e w' => e = .returned (.bool true) ∧ Below w.heap.size w w' := by
  have hrm : decide ((room.size : Int) > 150) = true := decide_eq_true (by omega)
  have hrm2 : decide ((150 : Int) < (room.size : Int)) = true := decide_eq_true (by omega)
  clear hroom
  have HP := Lib.hid hm.pos
  have HM := Lib.hid hm
  have HIN := Lib.hid hin
  have HF := Lib.hid hf
  clear hin hm het hf
  go_enter Tryz.func3, Tryz.ntmps3
  go_wp2_with fail
  refine (awake_calls w HM.out).mono ?_
  rintro e w1 ⟨rfl, hb⟩
  have HB := Lib.hid hb
  clear hb
  go_wp2_with fail
  have h2 := fewA_calls w1 a c l (HIN.out.below HB.out rfl)
  rw [HF.out] at h2
  refine h2.mono ?_
  rintro e w2 ⟨rfl, hb⟩
  have HB2 := Lib.hid (HB.out.trans (hb.mono HB.out.size))
  clear hb h2
  go_wp2_with fail
  refine (awake_calls w2 (HM.out.below HB2.out HP.out)).mono ?_
  rintro e w3 ⟨rfl, hb⟩
  have HB3 := Lib.hid (HB2.out.trans (hb.mono HB2.out.size))
  clear hb
  go_wp2_with fail
  go_ret
  exact ⟨rfl, HB3.out⟩
set_option maxRecDepth 100000 in
set_option maxHeartbeats 8000000 in
theorem mains_in (w : World) (a : Option Addr) (c : Nat) (l : List Ac) (hin : InA w a l.length l) (hm : Mx w) (het : Et w) (room : ByteArray) {s2 : Sl} {lst : List Tx} (hts : TsIn w s2 lst) (hf : fewA l = true) (hroom : room.size ≤ 150) : Calls Tryz.prog 3 #[.slice a l.length c, .string room, .slice s2.a s2.n s2.c] w fun e w' => e = .returned (.bool true) ∧ Below w.heap.size w w' := by
  have HTS := Lib.hid hts
  have hrm : decide ((room.size : Int) > 150) = false := decide_eq_false (by omega)
  have hrm2 : decide ((150 : Int) < (room.size : Int)) = false := decide_eq_false (by omega)
  clear hts
  have HP := Lib.hid hm.pos
  have HM := Lib.hid hm
  have HIN := Lib.hid hin
  have HF := Lib.hid hf
  have HET := Lib.hid het
  have h40 : l.length ≤ 40 := by
    have := hf
    unfold fewA at this
    rw [Bool.and_eq_true] at this
    simpa using this.2
  clear hin hm het hf
  go_enter Tryz.func3, Tryz.ntmps3
  go_wp2_with fail
  refine (awake_calls w HM.out).mono ?_
  rintro e w1 ⟨rfl, hb⟩
  have HB := Lib.hid hb
  clear hb
  go_wp2_with fail
  have h2 := fewA_calls w1 a c l (HIN.out.below HB.out rfl)
  rw [HF.out] at h2
  refine h2.mono ?_
  rintro e w2 ⟨rfl, hb⟩
  have HB2 := Lib.hid (HB.out.trans (hb.mono HB.out.size))
  clear hb h2
  go_wp2_with fail
  refine (few10_ok HTS.out 20 w2 HB2.out).mono ?_
  rintro e w2' ⟨hsome, hb⟩
  obtain ⟨fb, rfl, hfl⟩ := hsome
  have HB2' := Lib.hid (HB2.out.trans (hb.mono HB2.out.size))
  obtain ⟨w2'', hren⟩ : ∃ wn : World, wn = w2 := ⟨_, rfl⟩
  subst hren
  clear hb hfl HB2
  have HB2 := HB2'
  clear HB2'
  obtain ⟨w2, hren⟩ : ∃ wn : World, wn = w2' := ⟨_, rfl⟩
  subst hren
  cases fb with
  | false =>
    go_wp2_with fail
    refine (awake_calls w2 (HM.out.below HB2.out HP.out)).mono ?_
    rintro e w3 ⟨rfl, hb⟩
    have HB3 := Lib.hid (HB2.out.trans (hb.mono HB2.out.size))
    clear hb
    go_wp2_with fail
    go_ret
    exact ⟨rfl, HB3.out⟩
  | true =>
    go_wp2_with fail
    refine (new_ok w2 sX 30 (by decide) (HM.out.below HB2.out HP.out) x_server (by omega) (by omega)).mono ?_
    rintro e w3 ⟨g, b, rfl, ht, hgw, hbw, hb⟩
    have HT3 := Lib.hid ht
    have hgw : w.heap.size ≤ g := Nat.le_trans HB2.out.size hgw
    have hbw : w.heap.size ≤ b := Nat.le_trans HB2.out.size hbw
    have HB3 := Lib.hid (HB2.out.trans (hb.mono HB2.out.size))
    have hgl := blk_lt ht.blk
    have hbl := ht.mp.lt
    have hgb := ht.ne
    clear hb ht
    go_wp2_with fail
    refine (rnew_ok w3 sX 30 (by decide) x_server (by omega) (by omega)).mono ?_
    rintro e w4 ⟨rfl, hb⟩
    have hw34 := hb.size
    have HB4 := Lib.hid (HB3.out.trans (hb.mono HB3.out.size))
    have HT4 := Lib.hid (HT3.out.below hb)
    clear hb HT3
    simp only [erV, eCells, tCells, Sl.val]
    go_wp2_with fail
    have ht5 : ((w4.alloc (.cells #[.string sX, .int .i64 30, .slice none 0 0] 34)).alloc (.cells #[.int .i64 0, .int .i64 (-1), .string ⟨#[]⟩] 36)).heap[w4.heap.size]? = some (.cells #[.string sX, .int .i64 30, .slice none 0 0] 34 (0, 0)) := (heap_old_at _ _ _ (by simp)).trans (heap_new_at _ _ _ rfl)
    have hb5 : Below w4.heap.size w4 ((w4.alloc (.cells #[.string sX, .int .i64 30, .slice none 0 0] 34)).alloc (.cells #[.int .i64 0, .int .i64 (-1), .string ⟨#[]⟩] 36)) := ((Below.refl _ _).alloc (Nat.le_refl _) _).alloc (by simp) _
    generalize (w4.alloc (.cells #[.string sX, .int .i64 30, .slice none 0 0] 34)).alloc (.cells #[.int .i64 0, .int .i64 (-1), .string ⟨#[]⟩] 36) = w5 at *
    have HT5 := Lib.hid ht5
    have HB5 := Lib.hid (HB4.out.trans (hb5.mono HB4.out.size))
    have HTB5 := Lib.hid (HT4.out.below hb5)
    clear hb5 ht5
    go_loopw [51] (fun v wr => ∃ (i : Nat) (li : List En) (s : Sl), i ≤ l.length ∧ v = .int .i64 i ∧ li.length ≤ i ∧ RiseE li ∧ SmallE li ∧ SmallR li ∧ Both (fun i => i ≠ b ∧ i ≠ w4.heap.size) w g b sX 30 li s wr ∧ wr.heap[w4.heap.size]? = some (.cells #[.string sX, .int .i64 30, s.val] 34 (0, 0))) (fun v _ => l.length - (intOf v).toNat)
    case atStart => exact ⟨0, [], slZ, by omega, rfl, by simp, List.Pairwise.nil, (fun x hx => by cases hx), (fun x hx => by cases hx), ⟨HTB5.out, ⟨rfl, by simp, .inl ⟨rfl, rfl⟩⟩, fun i h => h.1, HB5.out, hgw, hbw⟩, HT5.out⟩
    case round =>
      obtain ⟨i, li, ⟨A, n, c'⟩, hi, rfl, hlen, hrise, hsmall, hsmr, hboth, ht9⟩ := hrel
      by_cases hlt : i < l.length
      · have hy : l[i]? = some l[i] := List.getElem?_eq_getElem hlt
        have hyok : okA l[i] = true := by
          have := HF.out
          unfold fewA at this
          rw [Bool.and_eq_true, List.all_eq_true] at this
          exact this.1 _ (List.getElem_mem hlt)
        obtain ⟨x, rfl, hxl, hcc⟩ := (HIN.out.below hboth.bel rfl).2.2.2 (by omega)
        generalize l[i] = y at hy hyok
        obtain ⟨c0, c1, c2, c3, c4⟩ := hcc i y hy
        have hys : y.a.size ≤ 150 ∧ y.r.size ≤ 150 ∧ y.b.size ≤ 150 := by
          unfold okA at hyok
          simp only [Bool.and_eq_true, decide_eq_true_eq] at hyok
          exact ⟨hyok.1.1, hyok.1.2, hyok.2⟩
        have t0 := cell_at (j := 0) ht9 rfl
        have t1 := cell_at (j := 1) ht9 rfl
        have t2 := cell_at (j := 2) ht9 rfl
        have tz : ∀ j, wr.frozen? ⟨w4.heap.size, j, none⟩ = false := fun j => frozen_at ht9
        have h9lt := blk_lt ht9
        have HBO := Lib.hid hboth
        have HT9 := Lib.hid ht9
        have HRI := Lib.hid hrise
        have HSM := Lib.hid hsmall
        have HSR := Lib.hid hsmr
        have hbs := hboth.bel.size
        obtain ⟨yd, ym, ya, yr, yb⟩ := y
        have HYS := Lib.hid hys
        clear hy hyok hcc hboth ht9 hrise hsmall hsmr hys
        go_wp2_with fail
        have hbA : Below wr.heap.size wr (wr.alloc (.cells #[.bool yd, .bool ym, .string ya, .string yr, .string yb] 40)) := (Below.refl _ _).alloc (Nat.le_refl _) _
        have ht9 := (hbA.block _ h9lt).trans HT9.out
        refine (do_calls (fun i => i ≠ b ∧ i ≠ w4.heap.size) w _ g b sX 30 li ⟨A, n, c'⟩ ⟨yd, ym, ya, yr, yb⟩ (HBO.out.below hbA) HET.out HM.out HRI.out (by omega) (by have := HYS.out.1; simp only at this ⊢; omega) (by have := HYS.out.2.1; simp only at this ⊢; omega) (by have := HYS.out.2.2; simp only at this ⊢; omega)).mono ?_
        rintro e wd ⟨⟨A', n', c''⟩, rfl, hbd, hfr⟩
        have ht9d := (hfr.block _ (blk_lt ht9) (by show ¬ w4.heap.size = b; omega)).trans ht9
        have HBD := Lib.hid (show Both (fun i => i ≠ b ∧ i ≠ w4.heap.size) w g b sX 30 (doL sX 30 li ⟨yd, ym, ya, yr, yb⟩) ⟨A', n', c''⟩ wd from ⟨hbd.t, hbd.r.mono (fun i _ h => by rcases h with h | h; (exact h); (simp at h; omega)), fun i h => h.1, hbd.bel, hbd.hg, hbd.hb⟩)
        have HLR := Lib.hid (smallR_do HSR.out sX 30 ⟨yd, ym, ya, yr, yb⟩ (by have := HYS.out.2.1; unfold maxLen; simp only at this ⊢; omega))
        have HLI := Lib.hid (And.intro (rise_do HRI.out sX 30 ⟨yd, ym, ya, yr, yb⟩) (And.intro (small_do HSM.out sX 30 ⟨yd, ym, ya, yr, yb⟩ (by have := HYS.out.1; unfold maxLen; simp only at this ⊢; omega)) (by have := doL_length sX 30 li ⟨yd, ym, ya, yr, yb⟩; omega : (doL sX 30 li ⟨yd, ym, ya, yr, yb⟩).length ≤ i + 1)))
        generalize doL sX 30 li ⟨yd, ym, ya, yr, yb⟩ = lj at *
        have HT9D := Lib.hid ht9d
        have t0d := cell_at (j := 0) ht9d rfl
        have t1d := cell_at (j := 1) ht9d rfl
        have t2d := cell_at (j := 2) ht9d rfl
        have tzd : ∀ j, wd.frozen? ⟨w4.heap.size, j, none⟩ = false := fun j => frozen_at ht9d
        clear hbA ht9 hbd hfr ht9d c0 c1 c2 c3 c4 t0 t1 t2 tz HRI HSM HBO HT9
        simp only [tCells, Sl.val] at *
        go_wp2_with fail
        have haf : (row3 wd w4.heap.size (.string sX) (.int .i64 30) (.slice A' n' c'')).heap[w4.heap.size]? = some (.cells #[.string sX, .int .i64 30, .slice A' n' c''] 34 (0, 0)) := row3_heap HT9D.out rfl
        have hbf : Both (fun i => i ≠ b ∧ i ≠ w4.heap.size) w g b sX 30 lj ⟨A', n', c''⟩ (row3 wd w4.heap.size (.string sX) (.int .i64 30) (.slice A' n' c'')) :=
          ⟨HBD.out.t.same (row3_other (by omega)) (row3_other (by omega)), HBD.out.r.same (by simp [World.setCell]) (fun k hk h => row3_other h.2), HBD.out.hP, row3_below HBD.out.bel (Nat.le_refl _) (by have := HB4.out.size; omega), HBD.out.hg, HBD.out.hb⟩
        exact ⟨⟨i + 1, lj, ⟨A', n', c''⟩, by omega, by go_num, HLI.out.2.2, HLI.out.1, HLI.out.2.1, HLR.out, hbf, haf⟩, by simp [intOf]; omega⟩
      · obtain rfl : i = l.length := by omega
        have hn40 : li.length ≤ 40 := by omega
        have HB := Lib.hid hboth.bel
        have HTB := Lib.hid hboth.t
        have HRI := Lib.hid hrise
        have HSM := Lib.hid hsmall
        have HSR := Lib.hid hsmr
        have hgr := blk_lt hboth.t.blk
        have hbr := hboth.t.mp.lt
        have HBOTH := Lib.hid hboth
        have HT9 := Lib.hid ht9
        clear hboth ht9 hrise hsmall hsmr
        have HBO := Lib.hid (HBOTH.out.r)
        go_wp2_with fail
        refine (made_ok HTS.out wr HB.out).mono ?_
        rintro e wm ⟨⟨ma, mn, mc⟩, rfl, hts3, hb⟩
        have HBM := Lib.hid hb
        have HTM := Lib.hid hts3
        have HCV := Lib.hid (cont_size hts3 canonK aliasB)
        clear hb hts3
        simp only [Sl.val]
        go_wp2_with fail
        refine (stReal_ok HTM.out (madeT_two lst) wm (Below.refl _ _)).mono ?_
        rintro e ws ⟨zs, rfl, hzs, hst, hb⟩
        have HBS := Lib.hid (HBM.out.trans (hb.mono HBM.out.size))
        have HTA := Lib.hid (HTB.out.below HBS.out)
        have HTM2 := Lib.hid (HTM.out.under hb rfl)
        have hcz : contZ zs canonK = contT (madeT lst) canonK := contZ_eq hzs (madeT_two lst)
        obtain ⟨tx, htx⟩ : ∃ tx, tx = (contT (madeT lst) canonK).str aliasB := ⟨_, rfl⟩
        have HSZ := Lib.hid (show tx.size ≤ 9223372036854775807 by rw [htx]; exact HCV.out)
        have hmc := main_calls ws g b sX 30 li room _ wm.heap.size zs HTA.out hst (by rw [hcz]; exact HCV.out)
        rw [hcz, ← htx] at hmc
        obtain ⟨got, hgot⟩ : ∃ got, got = mainOf li room tx := ⟨_, rfl⟩
        rw [← hgot] at hmc
        have HMC := Lib.hid hmc
        have HTX := Lib.hid htx
        have HGOT := Lib.hid hgot
        have HCS := Lib.hid (mainOf_cases li room tx)
        rw [← hgot] at HCS
        have HGS := Lib.hid (show got.size ≤ maxLen by rw [hgot]; exact mainOf_size li room tx HSZ.out)
        clear hb hst hzs hcz htx hmc hgot
        go_wp2_with fail
        refine HMC.out.mono ?_
        rintro e wn ⟨rfl, hb⟩
        have HBN := Lib.hid (HBS.out.trans (hb.mono HBS.out.size))
        have HTN := Lib.hid (HTA.out.below hb)
        have HTM3 := Lib.hid (HTM2.out.under hb rfl)
        have hgc := get_calls wn g b sX 30 li got HTN.out HGS.out
        clear hb HMC
        rcases HCS.out with hnil | ⟨x, hgx, hxr⟩
        · subst hnil
          generalize getE li ⟨#[]⟩ = o at hgc
          have HGC := Lib.hid hgc
          clear hgc
          go_wp2_with fail
          refine HGC.out.mono ?_
          rintro e wg ⟨rfl, hb⟩
          cases o with
          | none =>
            simp only [getV, enZ, errNone]
            have hbz : Below wn.heap.size wn (wg.alloc (.cells (En.cells enZ) 49)) := hb.alloc hb.size _
            obtain ⟨wz, hwz⟩ : ∃ wz : World, wz = wg.alloc (.cells (En.cells enZ) 49) := ⟨_, rfl⟩
            have hxz : wz.heap[wg.heap.size]? = some (.cells (En.cells enZ) 49 (0, 0)) := by rw [hwz]; exact heap_new_at _ _ _ rfl
            rw [← hwz] at hbz
            have HBZ := Lib.hid (HBN.out.trans (hbz.mono HBN.out.size))
            have hrm := rmain_calls wz sX 30 ⟨A, n, c'⟩ _ li room (HBO.out.same HBZ.out.size (fun k hk _ => HBZ.out.block k hk)) (by omega) (HTM3.out.under hbz rfl)
            rw [← HTX.out, ← HGOT.out] at hrm
            have HRM := Lib.hid hrm
            have ht9z := (HBZ.out.block _ (blk_lt HT9.out)).trans HT9.out
            have t0 : wz.cell? ⟨w4.heap.size, 0, none⟩ = some (.string sX) := cell_at (j := 0) ht9z rfl
            have t1 : wz.cell? ⟨w4.heap.size, 1, none⟩ = some (.int .i64 30) := cell_at (j := 1) ht9z rfl
            have t2 : wz.cell? ⟨w4.heap.size, 2, none⟩ = some (.slice A n c') := cell_at (j := 2) ht9z rfl
            have HXZ := Lib.hid hxz
            have HWZ := Lib.hid hwz
            have HBF := Lib.hid (HB.out.trans (HBZ.out.mono HB.out.size))
            clear hb hbz hxz hrm ht9z hwz
            go_upto_region 15 with fail
            try (rw [show wg.alloc (.cells #[.string ⟨#[]⟩, .string ⟨#[]⟩, .string ⟨#[]⟩] 49) = wz from HWZ.out.symm])
            try (rw [← HWZ.out])
            go_wp2_with fail
            refine HRM.out.mono ?_
            rintro e wy ⟨rfl, hby⟩
            have HBY := Lib.hid (HBF.out.trans (hby.mono HBF.out.size))
            have y1 := cell_at (j := 1) ((hby.block _ (blk_lt HXZ.out)).trans HXZ.out) rfl
            have hly : wg.heap.size < wy.heap.size := Nat.lt_of_lt_of_le (blk_lt HXZ.out) hby.size
            clear t0 t1 t2 hby
            go_wp2_with fail
            all_goals
              go_ret
              exact ⟨rfl, HBY.out⟩
          | some x =>
            simp only [getV]
            have hbz : Below wn.heap.size wn (wg.alloc (.cells (En.cells x) 49)) := hb.alloc hb.size _
            obtain ⟨wz, hwz⟩ : ∃ wz : World, wz = wg.alloc (.cells (En.cells x) 49) := ⟨_, rfl⟩
            have hxz : wz.heap[wg.heap.size]? = some (.cells (En.cells x) 49 (0, 0)) := by rw [hwz]; exact heap_new_at _ _ _ rfl
            rw [← hwz] at hbz
            have HBZ := Lib.hid (HBN.out.trans (hbz.mono HBN.out.size))
            have hrm := rmain_calls wz sX 30 ⟨A, n, c'⟩ _ li room (HBO.out.same HBZ.out.size (fun k hk _ => HBZ.out.block k hk)) (by omega) (HTM3.out.under hbz rfl)
            rw [← HTX.out, ← HGOT.out] at hrm
            have HRM := Lib.hid hrm
            have ht9z := (HBZ.out.block _ (blk_lt HT9.out)).trans HT9.out
            have t0 : wz.cell? ⟨w4.heap.size, 0, none⟩ = some (.string sX) := cell_at (j := 0) ht9z rfl
            have t1 : wz.cell? ⟨w4.heap.size, 1, none⟩ = some (.int .i64 30) := cell_at (j := 1) ht9z rfl
            have t2 : wz.cell? ⟨w4.heap.size, 2, none⟩ = some (.slice A n c') := cell_at (j := 2) ht9z rfl
            have HXZ := Lib.hid hxz
            have HWZ := Lib.hid hwz
            have HBF := Lib.hid (HB.out.trans (HBZ.out.mono HB.out.size))
            clear hb hbz hxz hrm ht9z hwz
            go_upto_region 15 with fail
            try (rw [show wg.alloc (.cells #[.string ⟨#[]⟩, .string ⟨#[]⟩, .string ⟨#[]⟩] 49) = wz from HWZ.out.symm])
            try (rw [← HWZ.out])
            go_wp2_with fail
            refine HRM.out.mono ?_
            rintro e wy ⟨rfl, hby⟩
            have HBY := Lib.hid (HBF.out.trans (hby.mono HBF.out.size))
            have y1 := cell_at (j := 1) ((hby.block _ (blk_lt HXZ.out)).trans HXZ.out) rfl
            have hly : wg.heap.size < wy.heap.size := Nat.lt_of_lt_of_le (blk_lt HXZ.out) hby.size
            clear t0 t1 t2 hby
            go_wp2_with fail
            all_goals
              go_ret
              exact ⟨rfl, HBY.out⟩
        · rw [hgx] at hgc
          have HGC := Lib.hid hgc
          have hxr2 : (x.r.toList == room.toList) = true := by simpa using hxr
          clear hgc hxr
          go_wp2_with fail
          refine HGC.out.mono ?_
          rintro e wg ⟨rfl, hb⟩
          simp only [getV]
          have hbz : Below wn.heap.size wn (wg.alloc (.cells (En.cells x) 49)) := hb.alloc hb.size _
          obtain ⟨wz, hwz⟩ : ∃ wz : World, wz = wg.alloc (.cells (En.cells x) 49) := ⟨_, rfl⟩
          have hxz : wz.heap[wg.heap.size]? = some (.cells (En.cells x) 49 (0, 0)) := by rw [hwz]; exact heap_new_at _ _ _ rfl
          rw [← hwz] at hbz
          have HBZ := Lib.hid (HBN.out.trans (hbz.mono HBN.out.size))
          have hrm := rmain_calls wz sX 30 ⟨A, n, c'⟩ _ li room (HBO.out.same HBZ.out.size (fun k hk _ => HBZ.out.block k hk)) (by omega) (HTM3.out.under hbz rfl)
          rw [← HTX.out, ← HGOT.out] at hrm
          have HRM := Lib.hid hrm
          have ht9z := (HBZ.out.block _ (blk_lt HT9.out)).trans HT9.out
          have t0 : wz.cell? ⟨w4.heap.size, 0, none⟩ = some (.string sX) := cell_at (j := 0) ht9z rfl
          have t1 : wz.cell? ⟨w4.heap.size, 1, none⟩ = some (.int .i64 30) := cell_at (j := 1) ht9z rfl
          have t2 : wz.cell? ⟨w4.heap.size, 2, none⟩ = some (.slice A n c') := cell_at (j := 2) ht9z rfl
          have HXZ := Lib.hid hxz
          have HWZ := Lib.hid hwz
          have HBF := Lib.hid (HB.out.trans (HBZ.out.mono HB.out.size))
          clear hb hbz hxz hrm ht9z hwz
          go_upto_region 15 with fail
          try (rw [show wg.alloc (.cells #[.string ⟨#[]⟩, .string ⟨#[]⟩, .string ⟨#[]⟩] 49) = wz from HWZ.out.symm])
          try (rw [← HWZ.out])
          go_wp2_with fail
          refine HRM.out.mono ?_
          rintro e wy ⟨rfl, hby⟩
          have HBY := Lib.hid (HBF.out.trans (hby.mono HBF.out.size))
          have y1 := cell_at (j := 1) ((hby.block _ (blk_lt HXZ.out)).trans HXZ.out) rfl
          have hly : wg.heap.size < wy.heap.size := Nat.lt_of_lt_of_le (blk_lt HXZ.out) hby.size
          clear t0 t1 t2 hby
          go_wp2_with fail
          all_goals
            go_ret
            exact ⟨rfl, HBY.out⟩

end Go.Proofs.YtgnoaeldmpbjmaaGreatDoor
/- AliasMains, whatever a list of acts, a room, a list of events: the call returns true and its arguments read as they did. No condition beside the row's own: the listed variable reads as the program's text lays it (the card ties it). -/
namespace Go.Proofs.YtgnoaeldmpbjmaaGreatDoor
open Go.RowKit Go.ChangeShapes Go.WideShapes Go.ChangeAt
/-- The wrap: the listed variables' condition, the world's shape and the weights of what came in handed on. -/
theorem returns_laid_sized {H : Type} {enc : TypeId × Value → H} {a : Assume} {C : Checked} {os : Os} {f : FuncId} {fn : Func} {s : ChangeSpec} {conds : List PathCond} {apart fresh handsOn again : Bool} {X : World → Array Value → Prop}
    (hX : ∀ (w w' : World) (args : Array Value), w.heap = w'.heap → X w args → X w' args)
    (own : ownKnob C.prog.godebug = none) (started : os.Started) (noInit : C.prog.inits.idxOf? f = none) (hfn : C.prog.funcs[f]? = some fn)
    (witness : ∃ (w : World) (tape : Tape) (i : Input), w.os = os ∧ (w.forCall tape i).Shaped C.prog ∧ i.vars = [] ∧ Input.okWide C.prog (w.forCall tape i) .any w.heap.size f i ∧
      ((s.pre enc C.prog fn conds apart (w.forCall tape i).memory i.args ∧ X (w.forCall tape i).memory i.args) ∧ sizedMet enc C.prog fn (OpenSpec.ofChange s) apart (w.forCall tape i).memory i.args) ∧ a.holds C.prog (lone (Frame.enter C.prog f i.args .normal) [] (w.forCall tape i)))
    (contract : ∀ (W : World) (base : Nat) (args : Array Value) (ds gs : List (DataW H)) (before : List MemPlace),
      (∀ (j : Nat) t v, fn.params[j]? = some t → args[j]? = some v → Value.okWide C.prog W .any base t v) →
      DataW.Whole enc C.prog fn.params.toList s.vars apart W args.toList ds gs before → X W args → W.ShapedOpen C.prog →
      (DataW.weightsEach C.prog (fn.params.toList ++ (OpenSpec.ofChange s).bare.plain.varTypes C.prog) (ds ++ gs)).all (· ≤ reachBytes) = true →
      Calls C.prog f args W fun e W' => ∃ v, e = .returned v ∧ s.post enc C.prog fn apart fresh handsOn again W args v W') :
    ReturnsInHanded a C os f .any (fun w args => (s.pre enc C.prog fn conds apart w args ∧ X w args) ∧ sizedMet enc C.prog fn (OpenSpec.ofChange s) apart w args) (s.post enc C.prog fn apart fresh handsOn again) := by
  refine returnsInHanded_of_calls own started noInit witness fun w tape i _ hsh _ hok hpre _ => ?_
  obtain ⟨_, _, _, fn', hfn', _, _, _, _, hval⟩ := hok
  obtain rfl : fn' = fn := Option.some.inj (hfn'.symm.trans hfn)
  obtain ⟨⟨_, hx⟩, _, ds, gs, before, hw0, hwt⟩ := hpre
  have hw : DataW.Whole enc C.prog _ s.vars apart (w.forCall tape i).memory i.args.toList ds gs before := hw0
  refine (contract (w.forCall tape i) w.heap.size i.args ds gs before hval (DataW.Whole.of_heap (w' := w.forCall tape i) (by rfl) hw) (hX _ _ _ (by rfl) hx) hsh hwt).mono fun e W' ⟨v, he, hp⟩ => ?_
  subst he
  exact ChangeSpec.post_blind hp
end Go.Proofs.YtgnoaeldmpbjmaaGreatDoor
namespace Go.Proofs.YtgnoaeldmpbjmaaGreatDoor.aliasMains
open Go.ChangeMaps Go.ChangeShapes Go.WideShapes Go.ChangeAt Go.RowKit
set_option linter.unusedVariables false

theorem walk (w : World) (a : Option Addr) (c : Nat) (l : List Ac) (hin : InA w a l.length l) (hm : Mx w) (het : Et w) (room : ByteArray) {s2 : Sl} {lst : List Tx} (hts : TsIn w s2 lst) :
    Calls Tryz.prog 3 #[.slice a l.length c, .string room, .slice s2.a s2.n s2.c] w fun e w' => e = .returned (.bool true) ∧ Below w.heap.size w w' := by
  cases hf : fewA l with
  | false => exact mains_many w a c l hin hm het room hts hf
  | true =>
    by_cases hr : room.size ≤ 150
    · exact mains_in w a c l hin hm het room hts hf hr
    · exact mains_long w a c l hin hm het room hts hf hr
set_option maxRecDepth 100000 in
theorem lifted (os : Os) (started : os.Started) (H : Type) (enc : TypeId × Value → H) :
    ReturnsInHanded {} Tryz.checked os 3 .any (fun w args => (Rows.aliasMainsSpec.pre enc Tryz.prog Tryz.f3 [] false w args ∧ laidMetH Tryz.prog laidL w) ∧ sizedMet enc Tryz.prog Tryz.f3 (OpenSpec.ofChange Rows.aliasMainsSpec) false w args)
      (Rows.aliasMainsSpec.post enc Tryz.prog Tryz.f3 false true false false) := by
  refine returns_laid_sized (C := Tryz.checked) (X := fun w _ => laidMetH Tryz.prog laidL w) (fun _ _ _ hh h => h.of_heap hh) own started (by kernel_rfl) Tryz.func3
    (ChangeSpec.witness_at (enc := enc) (C := Tryz.checked) (os := os) (X := fun w _ => laidMetH Tryz.prog laidL w) false (laidWorld os) #[.slice none 0 0, .string ⟨#[]⟩, .slice none 0 0] 8 rfl (by kernel_rfl) (by kernel_rfl) (by kernel_rfl) (by kernel_rfl) (by kernel_rfl) (laidWorld_met os _)) ?_
  intro W base args ds gs before hval0 hW hL hsh hwt
  have hval : ∀ (j : Nat) t v, Tryz.f3.params[j]? = some t → args[j]? = some v → Value.okWide Tryz.prog W .any base t v := hval0
  have hW' := hW
  obtain ⟨p, q, hA0, hV, rfl, hfz, hnd⟩ := hW
  have hA : DataW.TrodAll enc Tryz.prog W 0 (fun _ => true) true Tryz.f3.params.toList args.toList ds p := hA0
  rw [Tryz.params3] at hA hval
  obtain ⟨v0, vs0, d0, ds0, p0, q0, hargs, rfl, rfl, h0, r0⟩ := trodAll_cons hA
  obtain ⟨v1, vs1, d1, ds1, p1, q1, rfl, rfl, rfl, h1, r1⟩ := trodAll_cons r0
  obtain ⟨v2, vs2, d2, ds2, p2, q2, rfl, rfl, rfl, h2, r2⟩ := trodAll_cons r1
  obtain ⟨rfl, rfl, rfl⟩ := trodAll_nil r2
  obtain rfl : args = #[v0, v1, v2] := by cases args; simp_all
  obtain ⟨rfl, rfl⟩ := trodVars_none hV
  have k0 := h0
  have lt0 : ∀ x ∈ p0, x.block < W.heap.size := by obtain ⟨m, hm⟩ := k0; exact DataW.trod_lt m _ _ _ hm
  have k1 := h1
  have lt1 : ∀ x ∈ p1, x.block < W.heap.size := by obtain ⟨m, hm⟩ := k1; exact DataW.trod_lt m _ _ _ hm
  have k2 := h2
  have lt2 : ∀ x ∈ p2, x.block < W.heap.size := by obtain ⟨m, hm⟩ := k2; exact DataW.trod_lt m _ _ _ hm
  obtain ⟨s1, rfl, rfl, rfl, z1⟩ := open_string Tryz.underlying9 (hval 1 9 v1 rfl rfl) h1
  obtain ⟨a2, len2, cap2, rfl⟩ := okWide_slice Tryz.underlying23 (hval 2 23 v2 rfl rfl)
  have hw2 : (d2.weights Tryz.prog 23).all (· ≤ reachBytes) = true := weightsEach_at (i := 2) (by rw [Tryz.params3]; rfl) (by rfl) hwt
  obtain ⟨s2, lst, hs2, hts⟩ : ∃ (s2 : Sl) (lst : List Tx), (Value.slice a2 len2 cap2) = .slice s2.a s2.n s2.c ∧ TsIn W s2 lst := by
    obtain ⟨fuel, hf⟩ := h2
    obtain ⟨s, lst, hcs, hts⟩ := open_ts hf hw2
    simp [Value.cells, Sl.val] at hcs
    exact ⟨s, lst, by rw [hcs.1, hcs.2.1, hcs.2.2], hts⟩
  obtain ⟨a0, len0, cap0, rfl⟩ := okWide_slice Tryz.underlying22 (hval 0 22 v0 rfl rfl)
  obtain ⟨l, rfl, hin⟩ : ∃ l : List Ac, len0 = l.length ∧ InA W a0 l.length l := by
    obtain ⟨fuel, hf⟩ := h0
    obtain ⟨a, cap, l, hcs, hin⟩ := open_acts hf
    simp [Value.cells] at hcs
    obtain ⟨rfl, rfl, rfl⟩ := hcs
    exact ⟨l, rfl, hin⟩
  clear hA0 hval0
  rw [hs2]
  refine (walk W a0 cap0 l hin (mx_of hsh) (et_of hL) s1 hts).mono fun e W' ⟨he, bel⟩ => ?_
  subst he
  have t0 := Below.trod laidOut (by kernel_rfl) (of_decide_eq_true (by kernel_rfl)) k0 bel lt0
  have t1 := Below.trod laidOut (by kernel_rfl) (of_decide_eq_true (by kernel_rfl)) k1 bel lt1
  have t2 := Below.trod laidOut (by kernel_rfl) (of_decide_eq_true (by kernel_rfl)) k2 bel lt2
  rw [hs2] at hW' t2
  exact ⟨_, rfl, _, _, _, [], _, [], hW', trodAll_mk1 (shut_bool Tryz.underlying4 _), (trodAll_cons_mk t0 (trodAll_cons_mk t1 (trodAll_cons_mk t2 trodAll_mk0))), rfl, bel.frame _, fun h => by cases h⟩

theorem over : Rows.aliasMainsRow.holds Tryz.pinned (OpenSpec.ofChange Rows.aliasMainsSpec) :=
  OpenClaim.holds_of_wide 3 Tryz.f3 rfl rfl rfl rfl rfl rfl rfl ⟨rfl, rfl, rfl, rfl, rfl⟩ rfl rfl rfl rfl rfl (by kernel_rfl) Tryz.func3 (by kernel_rfl)
    (of_decide_eq_true (by kernel_rfl)) (by unfold Func.isWrapper; first | (rw [if_pos (by decide +kernel)]; kernel_rfl) | (rw [if_neg (by decide +kernel)]; exact ⟨rfl, rfl⟩))
    (fun os started H enc _ => lifted os started H enc)
end Go.Proofs.YtgnoaeldmpbjmaaGreatDoor.aliasMains
