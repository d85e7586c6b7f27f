/- The document's table: new; an alias's place. -/
import Derived.Test.YtgnoaeldmpbjmaaGreatDoorTm
import Derived.Test.YtgnoaeldmpbjmaaGreatDoorAl
import Derived.Test.YtgnoaeldmpbjmaaGreatDoorRh
import Derived.BigRegion
import Derived.Deep.RegionHeld3
set_option linter.unusedVariables false
set_option linter.unusedSimpArgs false
namespace Go.Proofs.YtgnoaeldmpbjmaaGreatDoor
open Go.RowKit

/-- Whatever an error is: what Tell tells of it. -/
def pathOf : Er → List UInt8
  | none => []
  | some (p, _) => pathL p
theorem tell_calls (w : World) (Q : Nat → Prop) (v : Value) (x : Er) (h : ErrV w Q v x) (het : Et w) (hp : (pathOf x).length ≤ 1000000) :
    Calls Tryz.prog 17 #[v] w fun e w' => e = .returned (erV x) ∧ Below w.heap.size w w' := by
  cases x with
  | none =>
    have : v = .nilIface := h
    subst this
    exact tell_nil w
  | some x => exact tell_flt w Q v x.1 x.2 h het hp

abbrev tCells (server : ByteArray) (most : Int) (s : Sl) : Array Value := #[.string server, .int .i64 most, s.val]
theorem results_rows2 {P : Program} {fn : Func} {p u : Tmp} {ty ty2 : TypeId} (h : fn.results = #[.cell p ty, .cell u ty2]) (tmps : Array Value) (w : World) (g g2 : Nat) (t t2 : TypeId) (cs cs2 : Array Value) (fr fr2 : Nat × Nat) (d d2 : TypeDesc)
    (hp : tmps.getD p undef = .pointer (some ⟨g, 0, none⟩)) (hg : w.heap[g]? = some (.cells cs t fr))
    (hu : P.underlying ty = some d) (hd : (match d with | .struct _ | .array _ _ => true | _ => false) = true) (hi : (P.info? ty).map (·.size) = some cs.size)
    (hp2 : tmps.getD u undef = .pointer (some ⟨g2, 0, none⟩)) (hg2 : w.heap[g2]? = some (.cells cs2 t2 fr2))
    (hu2 : P.underlying ty2 = some d2) (hd2 : (match d2 with | .struct _ | .array _ _ => true | _ => false) = true) (hi2 : (P.info? ty2).map (·.size) = some cs2.size) :
    (results fn tmps).run P w = .ok (.tuple #[.agg cs, .agg cs2]) w := by
  have hp' : tmps[p]?.getD undef = .pointer (some ⟨g, 0, none⟩) := by simpa using hp
  have hp2' : tmps[u]?.getD undef = .pointer (some ⟨g2, 0, none⟩) := by simpa using hp2
  simp [results, h, hp', hp2', asAddr, run_loadVar_row w g t ty cs fr d hg hu hd hi, run_loadVar_row w g2 t2 ty2 cs2 fr2 d2 hg2 hu2 hd2 hi2]
theorem res_TE {fn : Func} {p u : Tmp} (h : fn.results = #[.cell p 34, .cell u 36]) (tmps : Array Value) (w : World) (g g2 : Nat) (cs cs2 : Array Value)
    (hp : tmps.getD p undef = .pointer (some ⟨g, 0, none⟩)) (hg : w.heap[g]? = some (.cells cs 34 (0, 0))) (hs : cs.size = 3)
    (hp2 : tmps.getD u undef = .pointer (some ⟨g2, 0, none⟩)) (hg2 : w.heap[g2]? = some (.cells cs2 36 (0, 0))) (hs2 : cs2.size = 3) :
    (results fn tmps).run Tryz.prog w = .ok (.tuple #[.agg cs, .agg cs2]) w :=
  results_rows2 h tmps w g g2 _ _ cs cs2 (0, 0) (0, 0) _ _ hp hg Tryz.underlying34 rfl (by rw [hs]; kernel_rfl) hp2 hg2 Tryz.underlying36 rfl (by rw [hs2]; kernel_rfl)

/-- At. -/
def idxE (l : List En) (k : ByteArray) : Int := match l.findIdx? (aliasIs k) with
  | some i => i
  | none => -1
theorem alias_beq (a k : ByteArray) : (a.toList == k.toList) = (a.data.toList == k.data.toList) := by rw [ByteArray.toList_eq, ByteArray.toList_eq]
theorem idx_hit {l : List En} {k : ByteArray} {i : Nat} {x : En} (hx : l[i]? = some x) (hk : aliasIs k x = true) (hno : ∀ y ∈ l.take i, aliasIs k y = false) : idxE l k = i := by
  unfold idxE
  have : l.findIdx? (aliasIs k) = some i := by
    have hi : i < l.length := (List.getElem?_eq_some_iff.1 hx).1
    rw [List.findIdx?_eq_some_iff_getElem]
    refine ⟨hi, by rw [(List.getElem?_eq_some_iff.1 hx).2]; exact hk, fun j hj => ?_⟩
    have hm : l[j] ∈ l.take i := by
      rw [List.mem_take_iff_getElem]
      exact ⟨j, by omega, rfl⟩
    rw [hno _ hm]; simp
  rw [this]
theorem idx_none {l : List En} {k : ByteArray} (hno : ∀ y ∈ l, aliasIs k y = false) : idxE l k = -1 := by
  unfold idxE
  have : l.findIdx? (aliasIs k) = none := List.findIdx?_eq_none_iff.2 (fun y hy => by rw [hno y hy])
  rw [this]
set_option maxRecDepth 100000 in
theorem rat_calls (w : World) (server : ByteArray) (most : Int) (s : Sl) (P : Nat → Prop) (l : List En) (k : ByteArray) (hr : RowOf w P 105 3 s (rowsE l)) (hn : l.length ≤ 1000000) :
    Calls Tryz.prog 19 #[.agg (tCells server most s), .string k] w fun e w' => e = .returned (.int .i64 (idxE l k)) ∧ Below w.heap.size w w' := by
  have HR := Lib.hid hr
  have hnl : s.n = l.length := by have := hr.1; simpa using this
  obtain ⟨A, n, c⟩ := s
  dsimp only at hnl
  subst hnl
  have hb0 : Below w.heap.size w (w.alloc (.cells (tCells server most ⟨A, l.length, c⟩) 34)) := (Below.refl _ _).alloc (Nat.le_refl _) _
  have HB0 := Lib.hid hb0
  clear hr hb0
  simp only [tCells, Sl.val]
  go_enter Tryz.func19, Tryz.ntmps19
  go_wp2_with fail
  go_loopw [9] (fun i wr => ∃ j : Nat, j ≤ l.length ∧ i = .int .i64 j ∧ wr = w.alloc (.cells #[.string server, .int .i64 most, .slice A l.length c] 34) ∧ ∀ y ∈ l.take j, aliasIs k y = false) (fun i _ => l.length - (intOf i).toNat)
  case atStart => exact ⟨0, by omega, rfl, rfl, by simp⟩
  case round =>
    obtain ⟨j, hj, rfl, rfl, hno⟩ := hrel
    have HNO := Lib.hid hno
    clear hno
    have t2 : (w.alloc (.cells #[.string server, .int .i64 most, .slice A l.length c] 34)).cell? ⟨w.heap.size, 2, none⟩ = some (.slice A l.length c) := cell_new _ _ _ _ _ _ rfl
    by_cases hlt : j < l.length
    · have hy : l[j]? = some l[j] := List.getElem?_eq_getElem hlt
      have hts : l.take (j + 1) = l.take j ++ [l[j]] := by rw [List.take_succ_eq_append_getElem hlt]
      generalize l[j] = y at hy hts
      obtain ⟨r, ha⟩ : ∃ r, A = some ⟨r, 0, none⟩ := by
        rcases HR.out.2.2 with ⟨_, hnil⟩ | ⟨r, h1, _⟩
        · have := congrArg List.length hnil; simp at this; subst this; simp at hlt
        · exact ⟨r, h1⟩
      obtain ⟨_, hrl, hrw⟩ := HR.out.at ha
      have hyc : (rowsE l)[j]? = some y.cells.toList := by simp [hy]
      have c0 : (w.alloc (.cells #[.string server, .int .i64 most, .slice A l.length c] 34)).cell? ⟨r, j * 3, none⟩ = some (.string y.a) := (cell_old _ _ _ hrw.lt).trans (hrw.cell (d := 0) hyc rfl)
      have HTS := Lib.hid hts
      have HY := Lib.hid hy
      subst ha
      clear hy hts hrw hyc
      cases hsame : (y.a.toList == k.toList) with
      | true =>
        have HF := Lib.hid (idx_hit HY.out (by unfold aliasIs; rw [← alias_beq]; exact hsame) HNO.out)
        go_wp2_with fail
        go_ret
        exact ⟨by rw [HF.out]; rfl, HB0.out⟩
      | false =>
        have HF := Lib.hid (show aliasIs k y = false by unfold aliasIs; rw [← alias_beq]; exact hsame)
        go_wp2_with fail
        exact ⟨⟨j + 1, by omega, by go_num, (by first | rfl | trivial), by
          rw [HTS.out]; intro z hz
          rcases List.mem_append.1 hz with h | h
          · exact HNO.out z h
          · simp at h; rw [h]; exact HF.out⟩, by simp [intOf]; omega⟩
    · obtain rfl : j = l.length := by omega
      have HF := Lib.hid (idx_none (l := l) (k := k) (by have := HNO.out; rw [List.take_length] at this; exact this))
      go_wp2_with fail
      go_ret
      exact ⟨by rw [HF.out]; rfl, HB0.out⟩
end Go.Proofs.YtgnoaeldmpbjmaaGreatDoor
