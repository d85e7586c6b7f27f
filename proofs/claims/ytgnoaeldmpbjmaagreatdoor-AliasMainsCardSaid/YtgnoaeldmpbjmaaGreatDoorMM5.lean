/- The document's table: an alias is given. -/
import Derived.Test.YtgnoaeldmpbjmaaGreatDoorMM4
import Derived.Deep.DeepCutAuto
import Derived.Deep.CutBlock
import Derived.Test.YtgnoaeldmpbjmaaGreatDoorMM3
set_option linter.unusedVariables false
set_option linter.unusedSimpArgs false
namespace Go.Proofs.YtgnoaeldmpbjmaaGreatDoor
open Go.RowKit Go.Maps Go.Sort

/-- The document's place: ahead of what isn't smaller. -/
def insR (x : En) (l : List En) : List En := l.takeWhile (fun y => bytesBefore y.key x.key) ++ x :: l.dropWhile (fun y => bytesBefore y.key x.key)
theorem less_before (a b : ByteArray) : Op.bytesLess a.toList b.toList = bytesBefore a.data.toList b.data.toList := by
  rw [bytesLess_eq, bytes_lt, ByteArray.toList_eq, ByteArray.toList_eq]
  rfl
theorem insR_length (x : En) (l : List En) : (insR x l).length = l.length + 1 := by
  have := congrArg List.length (List.takeWhile_append_dropWhile (p := fun y => bytesBefore y.key x.key) (l := l))
  unfold insR
  simp only [List.length_append, List.length_cons] at this ⊢
  omega
theorem insR_flat (x : En) {l : List En} {i : Nat} (h : l.takeWhile (fun y => bytesBefore y.key x.key) = l.take i ∧ l.dropWhile (fun y => bytesBefore y.key x.key) = l.drop i) :
    (rowsE (insR x l)).flatten = ((rowsE l).take i).flatten ++ [[.string x.a, .string x.r, .string x.b]].flatten ++ ((rowsE l).drop i).flatten := by
  unfold insR
  rw [h.1, h.2]
  simp [rowsE, List.map_take, List.map_drop]
  rfl
theorem src_one {w : World} {b t : Nat} {x y z : Value} (h : w.heap[b]? = some (.cells #[x, y, z] t (0, 0))) (h1 : x.oneCell' = true) (h2 : y.oneCell' = true) (h3 : z.oneCell' = true) : Src w 3 (some ⟨b, 0, none⟩) 1 1 [[x, y, z]] :=
  ⟨rfl, by simp, by simp [h1, h2, h3], .inr ⟨_, rfl, fun j u hj => by
    have : (⟨b, 0, none⟩ : Addr).add j = ⟨b, j, none⟩ := by unfold Addr.add; split <;> simp_all
    rw [this]
    exact cell_at h (by simpa using hj)⟩⟩
theorem place_take {p : En → Bool} : ∀ {l : List En} {i : Nat}, i ≤ l.length → (∀ y ∈ l.take i, p y = true) → (∀ y, l[i]? = some y → p y = false) → l.takeWhile p = l.take i ∧ l.dropWhile p = l.drop i
  | [], i, h, _, _ => by simp at h; subst h; simp
  | y :: l, 0, _, _, h => by have := h y rfl; simp [List.takeWhile_cons, List.dropWhile_cons, this]
  | y :: l, i + 1, hi, h1, h2 => by
    have hy : p y = true := h1 y (by simp)
    obtain ⟨e1, e2⟩ := place_take (p := p) (l := l) (i := i) (by simpa using hi) (fun z hz => h1 z (by simp [hz])) (fun z hz => h2 z (by simpa using hz))
    simp [List.takeWhile_cons, List.dropWhile_cons, hy, e1, e2]
set_option maxRecDepth 100000 in
set_option maxHeartbeats 4000000 in
theorem radd_ok (w : World) (server : ByteArray) (most : Int) (s : Sl) (k room by_ : ByteArray) (hk : k.size ≤ 9223372036854775807) (hro : room.size ≤ 9223372036854775807) (hby : by_.size ≤ 9223372036854775807) (g0 : isB 3 k.data.toList = true) (g1 : isB 1 room.data.toList = true) (g2 : isB 2 by_.data.toList = true) (h4 : ((ofL (ofB k.data.toList)).toList == server.toList) = true) (P : Nat → Prop) (l : List En) (hr : RowOf w P 105 3 s (rowsE l)) (hn : l.length < 1000000) (hi : idxE l k = -1) (hf : (l.length : Int) < most) :
    Calls Tryz.prog 34 #[.agg (tCells server most s), .string k, .string room, .string by_] w fun e w' => ∃ s' : Sl, e = .returned (.tuple #[.agg (tCells server most s'), erV none]) ∧ RowOf w' (fun g => w.heap.size ≤ g) 105 3 s' (rowsE (insR ⟨k, room, by_⟩ l)) ∧ Below w.heap.size w w' := by
  have HI0 := Lib.hid (fun W => show Calls Tryz.prog 57 #[.int .i64 3, .string k] W fun e w' => e = .returned (.bool true) ∧ Below W.heap.size W w' from g0 ▸ ris_calls W 3 k (by omega) (by omega) hk)
  have HI1 := Lib.hid (fun W => show Calls Tryz.prog 57 #[.int .i64 1, .string room] W fun e w' => e = .returned (.bool true) ∧ Below W.heap.size W w' from g1 ▸ ris_calls W 1 room (by omega) (by omega) hro)
  have HI2 := Lib.hid (fun W => show Calls Tryz.prog 57 #[.int .i64 2, .string by_] W fun e w' => e = .returned (.bool true) ∧ Below W.heap.size W w' from g2 ▸ ris_calls W 2 by_ (by omega) (by omega) hby)
  have HO := Lib.hid (fun W => rof4_calls W k hk)
  have HAT := Lib.hid (fun W h => rat_calls W server most s P l k (hr.same (Below.size (B := w.heap.size) h) (fun g hg _ => Below.block h g hg)) (by omega))
  have hnl : s.n = l.length := by have := hr.1; simpa using this
  obtain ⟨A, n, c0⟩ := s
  dsimp only at hnl
  subst hnl
  have HROW := Lib.hid hr
  have HN := Lib.hid hn
  rw [hi] at HAT
  clear g2 hr hn hi
  have HA := Lib.hid (add0_made w server most A l.length c0 k room by_)
  clear hk hro hby g0 g1
  simp only [tCells, Sl.val] at *
  go_enter Tryz.func34, Tryz.ntmps34
  go_wp2_with fail
  generalize (((((w.alloc (.cells #[.string server, .int .i64 most, .slice A l.length c0] 34)).alloc (.cells TZ 34)).alloc (.cells EZ 36)).alloc (.cells #[.string sAlias, .string sRoom, .string sUser] 9)).alloc (.cells #[.string k, .string room, .string by_] 9)).alloc (.cells #[.int .i64 3, .int .i64 1, .int .i64 2] 3) = w0 at *
  refine wp_loop_rounds 4 ?_
  rw [rounds_succ]
  go_wp2_with fail
  have nmj : w0.cell? ⟨w.heap.size + 1 + 1 + 1, 0, none⟩ = some (.string sAlias) := cell_at HA.out.nm rfl
  have txj : w0.cell? ⟨w.heap.size + 1 + 1 + 1 + 1, 0, none⟩ = some (.string k) := cell_at HA.out.tx rfl
  have kdj : w0.cell? ⟨w.heap.size + 1 + 1 + 1 + 1 + 1, 0, none⟩ = some (.int .i64 3) := cell_at HA.out.kd rfl
  go_cut [35] (fun c wx => c = .bool false ∧ Add0 w server most A l.length c0 k room by_ wx)
  case first =>
    go_region_law (go_simp; go_at_call 57; refine (HI0.out _).mono ?_; rintro e wv ⟨rfl, hb⟩
                   have HLV := Lib.hid (show Add0 w server most A l.length c0 k room by_ wv by first | exact HA.out.drew.next hb | exact HA.out.next hb)
                   clear hb)
    all_goals
      go_wp2_with fail
      go_meet
      exact ⟨rfl, HLV.out⟩
  obtain ⟨hc0, hg0⟩ := hcut
  subst hc0
  have HG0 := Lib.hid hg0
  clear hg0 nmj txj kdj
  rename World => wg0
  go_wp2_with fail
  rw [rounds_succ]
  go_wp2_with fail
  have nmj : wg0.cell? ⟨w.heap.size + 1 + 1 + 1, 1, none⟩ = some (.string sRoom) := cell_at HG0.out.nm rfl
  have txj : wg0.cell? ⟨w.heap.size + 1 + 1 + 1 + 1, 1, none⟩ = some (.string room) := cell_at HG0.out.tx rfl
  have kdj : wg0.cell? ⟨w.heap.size + 1 + 1 + 1 + 1 + 1, 1, none⟩ = some (.int .i64 1) := cell_at HG0.out.kd rfl
  go_cut [35] (fun c wx => c = .bool false ∧ Add0 w server most A l.length c0 k room by_ wx)
  case first =>
    go_region_law (go_simp; go_at_call 57; refine (HI1.out _).mono ?_; rintro e wv ⟨rfl, hb⟩
                   have HLV := Lib.hid (show Add0 w server most A l.length c0 k room by_ wv by first | exact HG0.out.drew.next hb | exact HG0.out.next hb)
                   clear hb)
    all_goals
      go_wp2_with fail
      go_meet
      exact ⟨rfl, HLV.out⟩
  obtain ⟨hc1, hg1⟩ := hcut
  subst hc1
  have HG1 := Lib.hid hg1
  clear hg1 nmj txj kdj
  rename World => wg1
  go_wp2_with fail
  rw [rounds_succ]
  go_wp2_with fail
  have nmj : wg1.cell? ⟨w.heap.size + 1 + 1 + 1, 2, none⟩ = some (.string sUser) := cell_at HG1.out.nm rfl
  have txj : wg1.cell? ⟨w.heap.size + 1 + 1 + 1 + 1, 2, none⟩ = some (.string by_) := cell_at HG1.out.tx rfl
  have kdj : wg1.cell? ⟨w.heap.size + 1 + 1 + 1 + 1 + 1, 2, none⟩ = some (.int .i64 2) := cell_at HG1.out.kd rfl
  go_cut [35] (fun c wx => c = .bool false ∧ Add0 w server most A l.length c0 k room by_ wx)
  case first =>
    go_region_law (go_simp; go_at_call 57; refine (HI2.out _).mono ?_; rintro e wv ⟨rfl, hb⟩
                   have HLV := Lib.hid (show Add0 w server most A l.length c0 k room by_ wv by first | exact HG1.out.drew.next hb | exact HG1.out.next hb)
                   clear hb)
    all_goals
      go_wp2_with fail
      go_meet
      exact ⟨rfl, HLV.out⟩
  obtain ⟨hc2, hg2⟩ := hcut
  subst hc2
  have HG2 := Lib.hid hg2
  clear hg2 nmj txj kdj
  rename World => wg2
  go_wp2_with fail
  rw [rounds_succ]
  go_wp2_with fail
  have t0 := cell_at (j := 0) HG2.out.l.t rfl
  go_cut [48] (fun c wx => c = .bool false ∧ Add0 w server most A l.length c0 k room by_ wx)
  case first =>
    go_region_law (go_simp; go_at_call 58; refine (HO.out _).mono ?_; rintro e wv ⟨rfl, hb⟩
                   have hl : Add0 w server most A l.length c0 k room by_ wv := by first | exact HG2.out.drew.next hb | exact HG2.out.next hb
                   have t0v := cell_at (j := 0) hl.l.t rfl
                   have HLV := Lib.hid hl
                   clear hl hb)
    all_goals
      go_wp2_with fail
      go_meet
      exact ⟨rfl, HLV.out⟩
  obtain ⟨hc3, hg3⟩ := hcut
  subst hc3
  have HG3 := Lib.hid hg3
  clear hg3 t0
  rename World => wg3
  have t0 := cell_at (j := 0) HG3.out.l.t rfl
  have t1 := cell_at (j := 1) HG3.out.l.t rfl
  have t2 := cell_at (j := 2) HG3.out.l.t rfl
  have r0 := cell_at (j := 0) HG3.out.l.r rfl
  have r1 := cell_at (j := 1) HG3.out.l.r rfl
  have r2 := cell_at (j := 2) HG3.out.l.r rfl
  have e0 := cell_at (j := 0) HG3.out.l.e rfl
  have e1 := cell_at (j := 1) HG3.out.l.e rfl
  have e2 := cell_at (j := 2) HG3.out.l.e rfl
  have rz : ∀ j, wg3.frozen? ⟨w.heap.size + 1, j, none⟩ = false := fun j => frozen_at HG3.out.l.r
  have ez : ∀ j, wg3.frozen? ⟨w.heap.size + 1 + 1, j, none⟩ = false := fun j => frozen_at HG3.out.l.e
  go_wp2_with fail
  refine (HAT.out _ HG3.out.l.b).mono ?_
  rintro e wg4 ⟨rfl, hb⟩
  have hg4 : Add0 w server most A l.length c0 k room by_ wg4 := HG3.out.next hb
  clear t0 t1 t2 r0 r1 r2 e0 e1 e2 rz ez
  have t0 := cell_at (j := 0) hg4.l.t rfl
  have t1 := cell_at (j := 1) hg4.l.t rfl
  have t2 := cell_at (j := 2) hg4.l.t rfl
  have r0 := cell_at (j := 0) hg4.l.r rfl
  have r1 := cell_at (j := 1) hg4.l.r rfl
  have r2 := cell_at (j := 2) hg4.l.r rfl
  have e0 := cell_at (j := 0) hg4.l.e rfl
  have e1 := cell_at (j := 1) hg4.l.e rfl
  have e2 := cell_at (j := 2) hg4.l.e rfl
  have rz : ∀ j, wg4.frozen? ⟨w.heap.size + 1, j, none⟩ = false := fun j => frozen_at hg4.l.r
  have ez : ∀ j, wg4.frozen? ⟨w.heap.size + 1 + 1, j, none⟩ = false := fun j => frozen_at hg4.l.e
  have tz : ∀ j, wg4.frozen? ⟨w.heap.size, j, none⟩ = false := fun j => frozen_at hg4.l.t
  have HG4 := Lib.hid hg4
  clear hb hg4
  have hnn := HN.out
  go_upto_block 2 with fail
  go_cut [14] (fun c wx => ∃ i : Nat, i ≤ l.length ∧ c = .int .i64 i ∧ wx = wg4 ∧ (∀ y ∈ l.take i, bytesBefore y.key k.data.toList = true) ∧ (∀ y, l[i]? = some y → bytesBefore y.key k.data.toList = false))
  case first =>
    go_wp2_with fail
    go_loopw [14] (fun c wr => ∃ i : Nat, i ≤ l.length ∧ c = .int .i64 i ∧ wr = wg4 ∧ (∀ y ∈ l.take i, bytesBefore y.key k.data.toList = true)) (fun c _ => l.length - (intOf c).toNat)
    case atStart => exact ⟨0, by omega, rfl, rfl, by simp⟩
    case round =>
      obtain ⟨i, hi, rfl, rfl, hno⟩ := hrel
      have HNO := Lib.hid hno
      clear hno
      by_cases hlt : i < l.length
      · have hy : l[i]? = some l[i] := List.getElem?_eq_getElem hlt
        have hts : l.take (i + 1) = l.take i ++ [l[i]] := by rw [List.take_succ_eq_append_getElem hlt]
        generalize l[i] = y at hy hts
        obtain ⟨r, ha⟩ : ∃ r, A = some ⟨r, 0, none⟩ := by
          rcases HROW.out.2.2 with ⟨_, hnil⟩ | ⟨r, h1, _⟩
          · have := congrArg List.length hnil; simp at this; subst this; simp at hlt
          · exact ⟨r, h1⟩
        obtain ⟨_, hrl, hrw⟩ := HROW.out.at ha
        have hyc : (rowsE l)[i]? = some y.cells.toList := by simp [hy]
        have ca : wr.cell? ⟨r, i * 3, none⟩ = some (.string y.a) := (HG4.out.l.b.cell (p := ⟨r, i * 3, none⟩) hrw.lt).trans (hrw.cell (d := 0) hyc rfl)
        have HTS := Lib.hid hts
        have HY := Lib.hid hy
        subst ha
        clear hy hts hrw hyc
        cases hcm : Op.bytesLess y.a.toList k.toList with
        | true =>
          have HF := Lib.hid (show bytesBefore y.key k.data.toList = true from (less_before _ _).symm.trans hcm)
          go_wp2_with fail
          exact ⟨⟨i + 1, by omega, by go_num, (by first | rfl | trivial), by
            rw [HTS.out]; intro z hz
            rcases List.mem_append.1 hz with h | h
            · exact HNO.out z h
            · simp at h; rw [h]; exact HF.out⟩, by simp [intOf]; omega⟩
        | false =>
          have HF := Lib.hid (show bytesBefore y.key k.data.toList = false from (less_before _ _).symm.trans hcm)
          go_wp2_with fail
          go_meet
          exact ⟨i, by omega, rfl, rfl, HNO.out, fun z hz => by rw [HY.out] at hz; injection hz with hz; rw [← hz]; exact HF.out⟩
      · obtain rfl : i = l.length := by omega
        go_wp2_with fail
        go_meet
        exact ⟨l.length, Nat.le_refl _, rfl, rfl, HNO.out, fun y hy => by simp at hy⟩
  obtain ⟨i, hi, rfl, rfl, h1, h2⟩ := hcut
  have HPL := Lib.hid (place_take (p := fun y => bytesBefore y.key k.data.toList) hi h1 h2)
  clear h1 h2
  obtain ⟨i0, hi0, hz0, hz1, hz2⟩ := info_parts infoN
  have HIN := Lib.hid hi0
  have HZ0 := Lib.hid hz0
  have HZ1 := Lib.hid hz1
  have HZ2 := Lib.hid hz2
  clear hi0 hz0 hz1 hz2
  go_wp2_with fail
  go_cut [] (fun wx => ∃ s' : Sl, Laid3 w server most s'.a s'.n s'.c wx ∧ RowOf wx (fun g => w.heap.size + 1 + 1 < g) 105 3 s' (rowsE (insR ⟨k, room, by_⟩ l)))
  case first =>
    have hwcb := blk_lt HG4.out.l.e
    rcases HROW.out.2.2 with ⟨hs0, hl0⟩ | ⟨r, ha, hcap, hPr, hrl, hrw⟩
    · have hl00 : l = [] := by simpa using hl0
      subst hl00
      obtain ⟨rfl, _, rfl⟩ : A = none ∧ ([] : List En).length = 0 ∧ c0 = 0 := by simpa using hs0
      obtain rfl : i = 0 := by simpa using hi
      clear hs0 hl0
      have HL0 := Lib.hid (show Laid3 w server most none 0 0 wc from HG4.out.l)
      have HLe := Lib.hid (show Laid3 w server most none 0 0 (wc.alloc (.cells #[] 105)) from (HL0.out.alloc3 _))
      have HLx := Lib.hid (show Laid3 w server most none 0 0 (wc.alloc (.cells #[.string k, .string room, .string by_] 105)) from (HL0.out.alloc3 _))
      have HLex := Lib.hid (show Laid3 w server most none 0 0 ((wc.alloc (.cells #[] 105)).alloc (.cells #[.string k, .string room, .string by_] 105)) from (HLe.out.alloc3 _))
      have HLxe := Lib.hid (show Laid3 w server most none 0 0 ((wc.alloc (.cells #[.string k, .string room, .string by_] 105)).alloc (.cells #[] 105)) from (HLx.out.alloc3 _))
      have ct0 : wc.cell? ⟨w.heap.size, 2, none⟩ = some (.slice none 0 0) := cell_at HL0.out.t rfl
      have ft0 : wc.frozen? ⟨w.heap.size, 2, none⟩ = false := frozen_at HL0.out.t
      have cte : (wc.alloc (.cells #[] 105)).cell? ⟨w.heap.size, 2, none⟩ = some (.slice none 0 0) := cell_at HLe.out.t rfl
      have fte : (wc.alloc (.cells #[] 105)).frozen? ⟨w.heap.size, 2, none⟩ = false := frozen_at HLe.out.t
      have ctx : (wc.alloc (.cells #[.string k, .string room, .string by_] 105)).cell? ⟨w.heap.size, 2, none⟩ = some (.slice none 0 0) := cell_at HLx.out.t rfl
      have ftx : (wc.alloc (.cells #[.string k, .string room, .string by_] 105)).frozen? ⟨w.heap.size, 2, none⟩ = false := frozen_at HLx.out.t
      have ctex : ((wc.alloc (.cells #[] 105)).alloc (.cells #[.string k, .string room, .string by_] 105)).cell? ⟨w.heap.size, 2, none⟩ = some (.slice none 0 0) := cell_at HLex.out.t rfl
      have ftex : ((wc.alloc (.cells #[] 105)).alloc (.cells #[.string k, .string room, .string by_] 105)).frozen? ⟨w.heap.size, 2, none⟩ = false := frozen_at HLex.out.t
      have ctxe : ((wc.alloc (.cells #[.string k, .string room, .string by_] 105)).alloc (.cells #[] 105)).cell? ⟨w.heap.size, 2, none⟩ = some (.slice none 0 0) := cell_at HLxe.out.t rfl
      have ftxe : ((wc.alloc (.cells #[.string k, .string room, .string by_] 105)).alloc (.cells #[] 105)).frozen? ⟨w.heap.size, 2, none⟩ = false := frozen_at HLxe.out.t
      have HOe := Lib.hid (show (wc.alloc (.cells #[] 105)).drew.ownsRow (w.heap.size + 1 + 1 + 1) 105 3 (.slice (some ⟨wc.heap.size, 0, none⟩) 0 0) 0 [] from ⟨rfl, .inr ⟨wc.heap.size, 0, #[], rfl, hwcb, heap_new_at wc _ _ rfl, Nat.le_refl _, by decide, rfl, rfl⟩⟩)
      have HOex := Lib.hid (show ((wc.alloc (.cells #[] 105)).alloc (.cells #[.string k, .string room, .string by_] 105)).drew.ownsRow (w.heap.size + 1 + 1 + 1) 105 3 (.slice (some ⟨wc.heap.size, 0, none⟩) 0 0) 0 [] from (HOe.out.alloc _))
      have HOxe := Lib.hid (show ((wc.alloc (.cells #[.string k, .string room, .string by_] 105)).alloc (.cells #[] 105)).drew.ownsRow (w.heap.size + 1 + 1 + 1) 105 3 (.slice (some ⟨wc.heap.size + 1, 0, none⟩) 0 0) 0 [] from ⟨rfl, .inr ⟨wc.heap.size + 1, 0, #[], rfl, Nat.le_succ_of_le hwcb, heap_new_at _ _ _ (by simp), Nat.le_refl _, by decide, rfl, rfl⟩⟩)
      have HSe := Lib.hid (show Src (wc.alloc (.cells #[] 105)).drew 3 none 0 0 ((rowsE []).take 0) from ⟨rfl, by simp, by simp, .inl ⟨rfl, rfl, rfl⟩⟩)
      have HSex := Lib.hid (show Src ((wc.alloc (.cells #[] 105)).alloc (.cells #[.string k, .string room, .string by_] 105)).drew 3 none 0 0 ((rowsE []).take 0) from ⟨rfl, by simp, by simp, .inl ⟨rfl, rfl, rfl⟩⟩)
      have HSxe := Lib.hid (show Src ((wc.alloc (.cells #[.string k, .string room, .string by_] 105)).alloc (.cells #[] 105)).drew 3 none 0 0 ((rowsE []).take 0) from ⟨rfl, by simp, by simp, .inl ⟨rfl, rfl, rfl⟩⟩)
      have HXC := Lib.hid (show ∀ (W : World) (b : Nat), W.heap[b]? = some (.cells #[.string k, .string room, .string by_] 105 (0, 0)) → Src W 3 (some ⟨b, 0, none⟩) 1 1 [[.string k, .string room, .string by_]] from (fun W b h => src_one h rfl rfl rfl))
      have HBXE := Lib.hid (show ((wc.alloc (.cells #[.string k, .string room, .string by_] 105)).alloc (.cells #[] 105)).heap[wc.heap.size]? = some (.cells #[.string k, .string room, .string by_] 105 (0, 0)) from ((heap_old_at _ _ _ (by simp)).trans (heap_new_at _ _ _ rfl)))
      have HBEX := Lib.hid (show ((wc.alloc (.cells #[] 105)).alloc (.cells #[.string k, .string room, .string by_] 105)).heap[wc.heap.size + 1]? = some (.cells #[.string k, .string room, .string by_] 105 (0, 0)) from (heap_new_at _ _ _ (by simp)))
      refine wt_start (S := fun W => W.cell? ⟨w.heap.size, 2, none⟩ = some (.slice none 0 0)) 18 (by kernel_rfl) ⟨by kernel_rfl, by kernel_rfl, by kernel_rfl, by decide⟩ ?_
      intro HTK
      refine wt_take (i := 1) (v := ?_) HTK.out rfl (by decide) (by kernel_rfl) (by kernel_rfl) (fun _ _ _ h => h) (by exact ct0) (Or.inl ⟨by rfl, ?_⟩) ?_
      rotate_left
      · intro W hSw
        try dsimp only at hSw
        go_simp
        try (with_reducible rfl)
      try simp only [Act.put, List.setIfInBounds_toArray, List.set_cons_zero, List.set_cons_succ]
      refine wt_take (i := 3) (v := ?_) HTK.out rfl (by decide) (by kernel_rfl) (by kernel_rfl) (fun _ _ _ h => h) (by exact ct0) (Or.inl ⟨by rfl, ?_⟩) ?_
      rotate_left
      · intro W hSw
        try dsimp only at hSw
        go_simp
        try (with_reducible rfl)
      try simp only [Act.put, List.setIfInBounds_toArray, List.set_cons_zero, List.set_cons_succ]
      refine wt_take (i := 6) (v := ?_) HTK.out rfl (by decide) (by kernel_rfl) (by kernel_rfl) (fun _ _ _ h => h) (by exact ct0) (Or.inl ⟨by rfl, ?_⟩) ?_
      rotate_left
      · intro W hSw
        try dsimp only at hSw
        go_simp
        try (with_reducible rfl)
      try simp only [Act.put, List.setIfInBounds_toArray, List.set_cons_zero, List.set_cons_succ]
      refine wt_take (i := 7) (v := ?_) HTK.out rfl (by decide) (by kernel_rfl) (by kernel_rfl) (fun _ _ _ h => h) (by exact ct0) (Or.inl ⟨by rfl, ?_⟩) ?_
      rotate_left
      · intro W hSw
        try dsimp only at hSw
        go_simp
        try (with_reducible rfl)
      try simp only [Act.put, List.setIfInBounds_toArray, List.set_cons_zero, List.set_cons_succ]
      refine wt_take (i := 8) (v := ?_) HTK.out rfl (by decide) (by kernel_rfl) (by kernel_rfl) (fun _ _ _ h => h) (by exact ct0) (Or.inl ⟨by rfl, ?_⟩) ?_
      rotate_left
      · intro W hSw
        try dsimp only at hSw
        go_simp
        try (with_reducible rfl)
      try simp only [Act.put, List.setIfInBounds_toArray, List.set_cons_zero, List.set_cons_succ]
      refine wt_take (i := 9) (v := ?_) HTK.out rfl (by decide) (by kernel_rfl) (by kernel_rfl) (fun _ _ _ h => h) (by exact ct0) (Or.inl ⟨by rfl, ?_⟩) ?_
      rotate_left
      · intro W hSw
        try dsimp only at hSw
        go_simp
        try (with_reducible rfl)
      try simp only [Act.put, List.setIfInBounds_toArray, List.set_cons_zero, List.set_cons_succ]
      refine wt_take (i := 12) (v := ?_) HTK.out rfl (by decide) (by kernel_rfl) (by kernel_rfl) (fun _ _ _ h => h) (by exact ct0) (Or.inl ⟨by rfl, ?_⟩) ?_
      rotate_left
      · intro W hSw
        try dsimp only at hSw
        go_simp
        try (with_reducible rfl)
      try simp only [Act.put, List.setIfInBounds_toArray, List.set_cons_zero, List.set_cons_succ]
      refine wt_take (i := 14) (v := ?_) HTK.out rfl (by decide) (by kernel_rfl) (by kernel_rfl) (fun _ _ _ h => h) (by exact ct0) (Or.inl ⟨by rfl, ?_⟩) ?_
      rotate_left
      · intro W hSw
        try dsimp only at hSw
        go_simp
        try (with_reducible rfl)
      try simp only [Act.put, List.setIfInBounds_toArray, List.set_cons_zero, List.set_cons_succ]
      refine wt_take (i := 2) (v := ?_) HTK.out rfl (by decide) (by kernel_rfl) (by kernel_rfl) (fun _ _ _ h => h) (by exact ct0) (Or.inl ⟨by rfl, ?_⟩) ?_
      rotate_left
      · intro W hSw
        try dsimp only at hSw
        go_simp
        try (with_reducible rfl)
      try simp only [Act.put, List.setIfInBounds_toArray, List.set_cons_zero, List.set_cons_succ]
      refine wt_take (i := 13) (v := ?_) HTK.out rfl (by decide) (by kernel_rfl) (by kernel_rfl) (fun _ _ _ h => h) (by exact ct0) (Or.inl ⟨by rfl, ?_⟩) ?_
      rotate_left
      · intro W hSw
        try dsimp only at hSw
        go_simp
        try (with_reducible rfl)
      try simp only [Act.put, List.setIfInBounds_toArray, List.set_cons_zero, List.set_cons_succ]
      refine wt_take (i := 4) (v := ?_) HTK.out rfl (by decide) (by kernel_rfl) (by kernel_rfl) (fun _ _ _ h => h) (by exact ct0) (Or.inl ⟨by rfl, ?_⟩) ?_
      rotate_left
      · intro W hSw
        try dsimp only at hSw
        go_simp
        try (with_reducible rfl)
      try simp only [Act.put, List.setIfInBounds_toArray, List.set_cons_zero, List.set_cons_succ]
      refine wt_take (i := 15) (v := ?_) HTK.out rfl (by decide) (by kernel_rfl) (by kernel_rfl) (fun _ _ _ h => h) (by exact ct0) (Or.inl ⟨by rfl, ?_⟩) ?_
      rotate_left
      · intro W hSw
        try dsimp only at hSw
        go_simp
        try (with_reducible rfl)
      try simp only [Act.put, List.setIfInBounds_toArray, List.set_cons_zero, List.set_cons_succ]
      refine wt_ready (rs := [0, 10]) (by kernel_rfl) (by simp) ?_
      refine AllT.cons rfl (by decide) (fun K hK => ?_) ?_
      · go_simp
        refine hK.out _ _ (by exact cte) ?_
        clear hK K
        try simp only [Act.put, List.setIfInBounds_toArray, List.set_cons_zero, List.set_cons_succ]
        refine wt_ready (rs := [5, 10]) (by kernel_rfl) (by simp) ?_
        refine AllT.cons rfl (by decide) (fun K hK => ?_) ?_
        · refine step_append_src _ (by rfl) _ _ _ (by rfl) (w.heap.size + 1 + 1 + 1) 105 i0 _ 3 48 Tryz.underlying32 HIN.out HZ0.out HZ1.out HZ2.out rfl (by omega) _ 0 [] (by rfl) HOe.out _ 0 0 ((rowsE []).take 0) (by rfl) HSe.out (by unfold maxLen; omega) (by omega) (by simp; omega) ?_
          intro a1 cap1 w2 hown1 hgrow1 hat1
          try simp only [Nat.zero_add, List.nil_append] at hown1 hat1 ⊢
          have hob1 : ∀ j, (Value.slice a1 0 cap1).ownBlock = some j → w.heap.size + 1 + 1 < j := by
            intro j hj
            rcases hat1 with h | h
            · rw [h] at hj; simp only [Value.ownBlock] at hj; injection hj with hj; omega
            · rw [h] at hj; injection hj with hj; rw [← hj]; simp; omega
          have hl2 : Laid3 w server most none 0 0 w2 := HLe.out.drew.grown hgrow1 (fun j hj => by simp only [Value.ownBlock] at hj; injection hj with hj; omega)
          have ct2 : w2.cell? ⟨w.heap.size, 2, none⟩ = some (.slice none 0 0) := cell_at hl2.t rfl
          have ft2 : w2.frozen? ⟨w.heap.size, 2, none⟩ = false := frozen_at hl2.t
          have hown1' := hown1.alloc (.cells #[.string k, .string room, .string by_] 105)
          have hl2' : Laid3 w server most none 0 0 (w2.alloc (.cells #[.string k, .string room, .string by_] 105)) := hl2.alloc3 _
          have hx2' : Src (w2.alloc (.cells #[.string k, .string room, .string by_] 105)) 3 (some ⟨w2.heap.size, 0, none⟩) 1 1 [[.string k, .string room, .string by_]] := HXC.out _ _ (heap_new_at _ _ _ rfl)
          have ct2' : (w2.alloc (.cells #[.string k, .string room, .string by_] 105)).cell? ⟨w.heap.size, 2, none⟩ = some (.slice none 0 0) := cell_at hl2'.t rfl
          have ft2' : (w2.alloc (.cells #[.string k, .string room, .string by_] 105)).frozen? ⟨w.heap.size, 2, none⟩ = false := frozen_at hl2'.t
          have HOWN := Lib.hid hown1'
          have HL2 := Lib.hid hl2'
          have HX2 := Lib.hid hx2'
          clear hown1 hgrow1 hat1 hl2 hx2' hown1' hl2'
          refine hK.out _ _ (by exact ct2) ?_
          clear hK K
          try simp only [Act.put, List.setIfInBounds_toArray, List.set_cons_zero, List.set_cons_succ]
          refine wt_ready (rs := [10]) (by kernel_rfl) (by simp) ?_
          refine AllT.cons rfl (by decide) (fun K hK => ?_) ?_
          · go_simp
            refine hK.out _ _ (by exact ct2') ?_
            clear hK K
            try simp only [Act.put, List.setIfInBounds_toArray, List.set_cons_zero, List.set_cons_succ]
            refine wt_ready (rs := [11]) (by kernel_rfl) (by simp) ?_
            refine AllT.cons rfl (by decide) (fun K hK => ?_) ?_
            · refine step_append_src _ (by rfl) _ _ _ (by rfl) (w.heap.size + 1 + 1 + 1) 105 i0 _ 3 48 Tryz.underlying32 HIN.out HZ0.out HZ1.out HZ2.out rfl (by omega) _ _ _ (by rfl) HOWN.out _ 1 1 [[.string k, .string room, .string by_]] (by rfl) HX2.out (by unfold maxLen; omega) (by omega) (by have := blk_lt HL2.out.e; omega) ?_
              intro a2 cap2 w3 hown2 hgrow2 hat2
              try simp only [Nat.zero_add] at hown2 hat2 ⊢
              have hob2 : ∀ j, (Value.slice a2 1 cap2).ownBlock = some j → w.heap.size + 1 + 1 < j := by
                intro j hj
                rcases hat2 with h | h
                · rw [h] at hj; exact hob1 j hj
                · rw [h] at hj; injection hj with hj; have := blk_lt HL2.out.e; omega
              have hl3 : Laid3 w server most none 0 0 w3 := HL2.out.grown hgrow2 hob1
              have ct3 : w3.cell? ⟨w.heap.size, 2, none⟩ = some (.slice none 0 0) := cell_at hl3.t rfl
              have ft3 : w3.frozen? ⟨w.heap.size, 2, none⟩ = false := frozen_at hl3.t
              have hx3 : Src w3 3 none 0 0 ((rowsE []).drop 0) := ⟨rfl, by simp, by simp, .inl ⟨rfl, rfl, rfl⟩⟩
              have HOWN2 := Lib.hid hown2
              have HL3 := Lib.hid hl3
              have HX3 := Lib.hid hx3
              clear hown2 hgrow2 hat2 hl3 hx3
              refine hK.out _ _ (by exact ct3) ?_
              clear hK K
              try simp only [Act.put, List.setIfInBounds_toArray, List.set_cons_zero, List.set_cons_succ]
              refine wt_ready (rs := [16]) (by kernel_rfl) (by simp) ?_
              refine AllT.cons rfl (by decide) (fun K hK => ?_) ?_
              · refine step_append_src _ (by rfl) _ _ _ (by rfl) (w.heap.size + 1 + 1 + 1) 105 i0 _ 3 48 Tryz.underlying32 HIN.out HZ0.out HZ1.out HZ2.out rfl (by omega) _ _ _ (by rfl) HOWN2.out _ _ _ ((rowsE []).drop 0) (by rfl) HX3.out (by unfold maxLen; omega) (by omega) (by have := blk_lt HL3.out.e; omega) ?_
                intro a3 cap3 w4 hown3 hgrow3 hat3
                have hl4 : Laid3 w server most none 0 0 w4 := HL3.out.grown hgrow3 hob2
                have ft4 : w4.frozen? ⟨w.heap.size, 2, none⟩ = false := frozen_at hl4.t
                have ct4 : w4.cell? ⟨w.heap.size, 2, none⟩ = some (.slice none 0 0) := cell_at hl4.t rfl
                have HOWN3 := Lib.hid hown3
                have HL4 := Lib.hid hl4
                clear hown3 hgrow3 hat3 hl4
                refine hK.out _ _ (by exact ct4) ?_
                clear hK K
                try simp only [Act.put, List.setIfInBounds_toArray, List.set_cons_zero, List.set_cons_succ]
                refine wt_take (i := 17) (v := ?_) HTK.out rfl (by decide) (by kernel_rfl) (by kernel_rfl) (fun _ _ _ h => h) (by exact ct4) (Or.inl ⟨by rfl, ?_⟩) ?_
                rotate_left
                · intro W hSw
                  try dsimp only at hSw
                  go_simp
                  try (with_reducible rfl)
                try simp only [Act.put, List.setIfInBounds_toArray, List.set_cons_zero, List.set_cons_succ]
                refine wt_last (k := 18) (by kernel_rfl) (by kernel_rfl) (by decide) rfl (fun K hK => ?_)
                go_simp
                refine hK.out _ _ ?_
                clear hK K
                try simp only [Act.put, List.setIfInBounds_toArray, List.set_cons_zero, List.set_cons_succ]
                have hl5 := HL4.out.put a3 1 cap3
                obtain ⟨s', hs', hro⟩ := RowOf.of_own (l := rowsE (insR ⟨k, room, by_⟩ [])) (by rw [insR_flat ⟨k, room, by_⟩ HPL.out]; exact HOWN3.out) (fun y hy => by obtain ⟨z, _, rfl⟩ := List.mem_map.1 hy; rfl) (by decide) (by simp [insR_length] <;> omega)
                obtain ⟨sa, sn, sc⟩ := s'
                simp only [Sl.val] at hs'
                injection hs' with hs1 hs2 hs3
                subst hs1 hs2 hs3
                have HL5 := Lib.hid hl5
                have HRO := Lib.hid hro
                clear hl5 hro
                skip
                go_wp2_with fail
                go_meet
                exact ⟨⟨a3, _, cap3⟩, HL5.out, (HRO.out.same (by simp [World.setCell]) (fun g hg hP => Below.heap_setCell _ _ _ _ (by show g ≠ w.heap.size; omega))).mono (fun g _ h => by omega)⟩
              exact AllT.nil
            exact AllT.nil
          exact AllT.nil
        refine AllT.cons rfl (by decide) (fun K hK => ?_) ?_
        · go_simp
          refine hK.out _ _ (by exact ctex) ?_
          clear hK K
          try simp only [Act.put, List.setIfInBounds_toArray, List.set_cons_zero, List.set_cons_succ]
          refine wt_ready (rs := [5]) (by kernel_rfl) (by simp) ?_
          refine AllT.cons rfl (by decide) (fun K hK => ?_) ?_
          · refine step_append_src _ (by rfl) _ _ _ (by rfl) (w.heap.size + 1 + 1 + 1) 105 i0 _ 3 48 Tryz.underlying32 HIN.out HZ0.out HZ1.out HZ2.out rfl (by omega) _ 0 [] (by rfl) HOex.out _ 0 0 ((rowsE []).take 0) (by rfl) HSex.out (by unfold maxLen; omega) (by omega) (by simp; omega) ?_
            intro a1 cap1 w2 hown1 hgrow1 hat1
            try simp only [Nat.zero_add, List.nil_append] at hown1 hat1 ⊢
            have hob1 : ∀ j, (Value.slice a1 0 cap1).ownBlock = some j → w.heap.size + 1 + 1 < j := by
              intro j hj
              rcases hat1 with h | h
              · rw [h] at hj; simp only [Value.ownBlock] at hj; injection hj with hj; omega
              · rw [h] at hj; injection hj with hj; rw [← hj]; simp; omega
            have hl2 : Laid3 w server most none 0 0 w2 := HLex.out.drew.grown hgrow1 (fun j hj => by simp only [Value.ownBlock] at hj; injection hj with hj; omega)
            have ct2 : w2.cell? ⟨w.heap.size, 2, none⟩ = some (.slice none 0 0) := cell_at hl2.t rfl
            have ft2 : w2.frozen? ⟨w.heap.size, 2, none⟩ = false := frozen_at hl2.t
            have hx2' : Src w2 3 (some ⟨wc.heap.size + 1, 0, none⟩) 1 1 [[.string k, .string room, .string by_]] := HXC.out _ _ ((hgrow1.block _ (by simp <;> omega) (by simp only [Value.ownBlock]; intro he; injection he with he; omega)).trans HBEX.out)
            have HOWN := Lib.hid hown1
            have HL2 := Lib.hid hl2
            have HX2 := Lib.hid hx2'
            clear hown1 hgrow1 hat1 hl2 hx2'
            refine hK.out _ _ (by exact ct2) ?_
            clear hK K
            try simp only [Act.put, List.setIfInBounds_toArray, List.set_cons_zero, List.set_cons_succ]
            refine wt_ready (rs := [11]) (by kernel_rfl) (by simp) ?_
            refine AllT.cons rfl (by decide) (fun K hK => ?_) ?_
            · refine step_append_src _ (by rfl) _ _ _ (by rfl) (w.heap.size + 1 + 1 + 1) 105 i0 _ 3 48 Tryz.underlying32 HIN.out HZ0.out HZ1.out HZ2.out rfl (by omega) _ _ _ (by rfl) HOWN.out _ 1 1 [[.string k, .string room, .string by_]] (by rfl) HX2.out (by unfold maxLen; omega) (by omega) (by have := blk_lt HL2.out.e; omega) ?_
              intro a2 cap2 w3 hown2 hgrow2 hat2
              try simp only [Nat.zero_add] at hown2 hat2 ⊢
              have hob2 : ∀ j, (Value.slice a2 1 cap2).ownBlock = some j → w.heap.size + 1 + 1 < j := by
                intro j hj
                rcases hat2 with h | h
                · rw [h] at hj; exact hob1 j hj
                · rw [h] at hj; injection hj with hj; have := blk_lt HL2.out.e; omega
              have hl3 : Laid3 w server most none 0 0 w3 := HL2.out.grown hgrow2 hob1
              have ct3 : w3.cell? ⟨w.heap.size, 2, none⟩ = some (.slice none 0 0) := cell_at hl3.t rfl
              have ft3 : w3.frozen? ⟨w.heap.size, 2, none⟩ = false := frozen_at hl3.t
              have hx3 : Src w3 3 none 0 0 ((rowsE []).drop 0) := ⟨rfl, by simp, by simp, .inl ⟨rfl, rfl, rfl⟩⟩
              have HOWN2 := Lib.hid hown2
              have HL3 := Lib.hid hl3
              have HX3 := Lib.hid hx3
              clear hown2 hgrow2 hat2 hl3 hx3
              refine hK.out _ _ (by exact ct3) ?_
              clear hK K
              try simp only [Act.put, List.setIfInBounds_toArray, List.set_cons_zero, List.set_cons_succ]
              refine wt_ready (rs := [16]) (by kernel_rfl) (by simp) ?_
              refine AllT.cons rfl (by decide) (fun K hK => ?_) ?_
              · refine step_append_src _ (by rfl) _ _ _ (by rfl) (w.heap.size + 1 + 1 + 1) 105 i0 _ 3 48 Tryz.underlying32 HIN.out HZ0.out HZ1.out HZ2.out rfl (by omega) _ _ _ (by rfl) HOWN2.out _ _ _ ((rowsE []).drop 0) (by rfl) HX3.out (by unfold maxLen; omega) (by omega) (by have := blk_lt HL3.out.e; omega) ?_
                intro a3 cap3 w4 hown3 hgrow3 hat3
                have hl4 : Laid3 w server most none 0 0 w4 := HL3.out.grown hgrow3 hob2
                have ft4 : w4.frozen? ⟨w.heap.size, 2, none⟩ = false := frozen_at hl4.t
                have ct4 : w4.cell? ⟨w.heap.size, 2, none⟩ = some (.slice none 0 0) := cell_at hl4.t rfl
                have HOWN3 := Lib.hid hown3
                have HL4 := Lib.hid hl4
                clear hown3 hgrow3 hat3 hl4
                refine hK.out _ _ (by exact ct4) ?_
                clear hK K
                try simp only [Act.put, List.setIfInBounds_toArray, List.set_cons_zero, List.set_cons_succ]
                refine wt_take (i := 17) (v := ?_) HTK.out rfl (by decide) (by kernel_rfl) (by kernel_rfl) (fun _ _ _ h => h) (by exact ct4) (Or.inl ⟨by rfl, ?_⟩) ?_
                rotate_left
                · intro W hSw
                  try dsimp only at hSw
                  go_simp
                  try (with_reducible rfl)
                try simp only [Act.put, List.setIfInBounds_toArray, List.set_cons_zero, List.set_cons_succ]
                refine wt_last (k := 18) (by kernel_rfl) (by kernel_rfl) (by decide) rfl (fun K hK => ?_)
                go_simp
                refine hK.out _ _ ?_
                clear hK K
                try simp only [Act.put, List.setIfInBounds_toArray, List.set_cons_zero, List.set_cons_succ]
                have hl5 := HL4.out.put a3 1 cap3
                obtain ⟨s', hs', hro⟩ := RowOf.of_own (l := rowsE (insR ⟨k, room, by_⟩ [])) (by rw [insR_flat ⟨k, room, by_⟩ HPL.out]; exact HOWN3.out) (fun y hy => by obtain ⟨z, _, rfl⟩ := List.mem_map.1 hy; rfl) (by decide) (by simp [insR_length] <;> omega)
                obtain ⟨sa, sn, sc⟩ := s'
                simp only [Sl.val] at hs'
                injection hs' with hs1 hs2 hs3
                subst hs1 hs2 hs3
                have HL5 := Lib.hid hl5
                have HRO := Lib.hid hro
                clear hl5 hro
                skip
                go_wp2_with fail
                go_meet
                exact ⟨⟨a3, _, cap3⟩, HL5.out, (HRO.out.same (by simp [World.setCell]) (fun g hg hP => Below.heap_setCell _ _ _ _ (by show g ≠ w.heap.size; omega))).mono (fun g _ h => by omega)⟩
              exact AllT.nil
            exact AllT.nil
          exact AllT.nil
        exact AllT.nil
      refine AllT.cons rfl (by decide) (fun K hK => ?_) ?_
      · go_simp
        refine hK.out _ _ (by exact ctx) ?_
        clear hK K
        try simp only [Act.put, List.setIfInBounds_toArray, List.set_cons_zero, List.set_cons_succ]
        refine wt_ready (rs := [0]) (by kernel_rfl) (by simp) ?_
        refine AllT.cons rfl (by decide) (fun K hK => ?_) ?_
        · go_simp
          refine hK.out _ _ (by exact ctxe) ?_
          clear hK K
          try simp only [Act.put, List.setIfInBounds_toArray, List.set_cons_zero, List.set_cons_succ]
          refine wt_ready (rs := [5]) (by kernel_rfl) (by simp) ?_
          refine AllT.cons rfl (by decide) (fun K hK => ?_) ?_
          · refine step_append_src _ (by rfl) _ _ _ (by rfl) (w.heap.size + 1 + 1 + 1) 105 i0 _ 3 48 Tryz.underlying32 HIN.out HZ0.out HZ1.out HZ2.out rfl (by omega) _ 0 [] (by rfl) HOxe.out _ 0 0 ((rowsE []).take 0) (by rfl) HSxe.out (by unfold maxLen; omega) (by omega) (by simp; omega) ?_
            intro a1 cap1 w2 hown1 hgrow1 hat1
            try simp only [Nat.zero_add, List.nil_append] at hown1 hat1 ⊢
            have hob1 : ∀ j, (Value.slice a1 0 cap1).ownBlock = some j → w.heap.size + 1 + 1 < j := by
              intro j hj
              rcases hat1 with h | h
              · rw [h] at hj; simp only [Value.ownBlock] at hj; injection hj with hj; omega
              · rw [h] at hj; injection hj with hj; rw [← hj]; simp; omega
            have hl2 : Laid3 w server most none 0 0 w2 := HLxe.out.drew.grown hgrow1 (fun j hj => by simp only [Value.ownBlock] at hj; injection hj with hj; omega)
            have ct2 : w2.cell? ⟨w.heap.size, 2, none⟩ = some (.slice none 0 0) := cell_at hl2.t rfl
            have ft2 : w2.frozen? ⟨w.heap.size, 2, none⟩ = false := frozen_at hl2.t
            have hx2' : Src w2 3 (some ⟨wc.heap.size, 0, none⟩) 1 1 [[.string k, .string room, .string by_]] := HXC.out _ _ ((hgrow1.block _ (by simp <;> omega) (by simp only [Value.ownBlock]; intro he; injection he with he; omega)).trans HBXE.out)
            have HOWN := Lib.hid hown1
            have HL2 := Lib.hid hl2
            have HX2 := Lib.hid hx2'
            clear hown1 hgrow1 hat1 hl2 hx2'
            refine hK.out _ _ (by exact ct2) ?_
            clear hK K
            try simp only [Act.put, List.setIfInBounds_toArray, List.set_cons_zero, List.set_cons_succ]
            refine wt_ready (rs := [11]) (by kernel_rfl) (by simp) ?_
            refine AllT.cons rfl (by decide) (fun K hK => ?_) ?_
            · refine step_append_src _ (by rfl) _ _ _ (by rfl) (w.heap.size + 1 + 1 + 1) 105 i0 _ 3 48 Tryz.underlying32 HIN.out HZ0.out HZ1.out HZ2.out rfl (by omega) _ _ _ (by rfl) HOWN.out _ 1 1 [[.string k, .string room, .string by_]] (by rfl) HX2.out (by unfold maxLen; omega) (by omega) (by have := blk_lt HL2.out.e; omega) ?_
              intro a2 cap2 w3 hown2 hgrow2 hat2
              try simp only [Nat.zero_add] at hown2 hat2 ⊢
              have hob2 : ∀ j, (Value.slice a2 1 cap2).ownBlock = some j → w.heap.size + 1 + 1 < j := by
                intro j hj
                rcases hat2 with h | h
                · rw [h] at hj; exact hob1 j hj
                · rw [h] at hj; injection hj with hj; have := blk_lt HL2.out.e; omega
              have hl3 : Laid3 w server most none 0 0 w3 := HL2.out.grown hgrow2 hob1
              have ct3 : w3.cell? ⟨w.heap.size, 2, none⟩ = some (.slice none 0 0) := cell_at hl3.t rfl
              have ft3 : w3.frozen? ⟨w.heap.size, 2, none⟩ = false := frozen_at hl3.t
              have hx3 : Src w3 3 none 0 0 ((rowsE []).drop 0) := ⟨rfl, by simp, by simp, .inl ⟨rfl, rfl, rfl⟩⟩
              have HOWN2 := Lib.hid hown2
              have HL3 := Lib.hid hl3
              have HX3 := Lib.hid hx3
              clear hown2 hgrow2 hat2 hl3 hx3
              refine hK.out _ _ (by exact ct3) ?_
              clear hK K
              try simp only [Act.put, List.setIfInBounds_toArray, List.set_cons_zero, List.set_cons_succ]
              refine wt_ready (rs := [16]) (by kernel_rfl) (by simp) ?_
              refine AllT.cons rfl (by decide) (fun K hK => ?_) ?_
              · refine step_append_src _ (by rfl) _ _ _ (by rfl) (w.heap.size + 1 + 1 + 1) 105 i0 _ 3 48 Tryz.underlying32 HIN.out HZ0.out HZ1.out HZ2.out rfl (by omega) _ _ _ (by rfl) HOWN2.out _ _ _ ((rowsE []).drop 0) (by rfl) HX3.out (by unfold maxLen; omega) (by omega) (by have := blk_lt HL3.out.e; omega) ?_
                intro a3 cap3 w4 hown3 hgrow3 hat3
                have hl4 : Laid3 w server most none 0 0 w4 := HL3.out.grown hgrow3 hob2
                have ft4 : w4.frozen? ⟨w.heap.size, 2, none⟩ = false := frozen_at hl4.t
                have ct4 : w4.cell? ⟨w.heap.size, 2, none⟩ = some (.slice none 0 0) := cell_at hl4.t rfl
                have HOWN3 := Lib.hid hown3
                have HL4 := Lib.hid hl4
                clear hown3 hgrow3 hat3 hl4
                refine hK.out _ _ (by exact ct4) ?_
                clear hK K
                try simp only [Act.put, List.setIfInBounds_toArray, List.set_cons_zero, List.set_cons_succ]
                refine wt_take (i := 17) (v := ?_) HTK.out rfl (by decide) (by kernel_rfl) (by kernel_rfl) (fun _ _ _ h => h) (by exact ct4) (Or.inl ⟨by rfl, ?_⟩) ?_
                rotate_left
                · intro W hSw
                  try dsimp only at hSw
                  go_simp
                  try (with_reducible rfl)
                try simp only [Act.put, List.setIfInBounds_toArray, List.set_cons_zero, List.set_cons_succ]
                refine wt_last (k := 18) (by kernel_rfl) (by kernel_rfl) (by decide) rfl (fun K hK => ?_)
                go_simp
                refine hK.out _ _ ?_
                clear hK K
                try simp only [Act.put, List.setIfInBounds_toArray, List.set_cons_zero, List.set_cons_succ]
                have hl5 := HL4.out.put a3 1 cap3
                obtain ⟨s', hs', hro⟩ := RowOf.of_own (l := rowsE (insR ⟨k, room, by_⟩ [])) (by rw [insR_flat ⟨k, room, by_⟩ HPL.out]; exact HOWN3.out) (fun y hy => by obtain ⟨z, _, rfl⟩ := List.mem_map.1 hy; rfl) (by decide) (by simp [insR_length] <;> omega)
                obtain ⟨sa, sn, sc⟩ := s'
                simp only [Sl.val] at hs'
                injection hs' with hs1 hs2 hs3
                subst hs1 hs2 hs3
                have HL5 := Lib.hid hl5
                have HRO := Lib.hid hro
                clear hl5 hro
                skip
                go_wp2_with fail
                go_meet
                exact ⟨⟨a3, _, cap3⟩, HL5.out, (HRO.out.same (by simp [World.setCell]) (fun g hg hP => Below.heap_setCell _ _ _ _ (by show g ≠ w.heap.size; omega))).mono (fun g _ h => by omega)⟩
              exact AllT.nil
            exact AllT.nil
          exact AllT.nil
        exact AllT.nil
      exact AllT.nil
    dsimp only at ha hcap hrw
    subst ha
    have HRW := Lib.hid hrw
    clear hrw hPr
    have HL0 := Lib.hid (show Laid3 w server most (some ⟨r, 0, none⟩) l.length c0 wc from HG4.out.l)
    have HLe := Lib.hid (show Laid3 w server most (some ⟨r, 0, none⟩) l.length c0 (wc.alloc (.cells #[] 105)) from (HL0.out.alloc3 _))
    have HLx := Lib.hid (show Laid3 w server most (some ⟨r, 0, none⟩) l.length c0 (wc.alloc (.cells #[.string k, .string room, .string by_] 105)) from (HL0.out.alloc3 _))
    have HLex := Lib.hid (show Laid3 w server most (some ⟨r, 0, none⟩) l.length c0 ((wc.alloc (.cells #[] 105)).alloc (.cells #[.string k, .string room, .string by_] 105)) from (HLe.out.alloc3 _))
    have HLxe := Lib.hid (show Laid3 w server most (some ⟨r, 0, none⟩) l.length c0 ((wc.alloc (.cells #[.string k, .string room, .string by_] 105)).alloc (.cells #[] 105)) from (HLx.out.alloc3 _))
    have ct0 : wc.cell? ⟨w.heap.size, 2, none⟩ = some (.slice (some ⟨r, 0, none⟩) l.length c0) := cell_at HL0.out.t rfl
    have ft0 : wc.frozen? ⟨w.heap.size, 2, none⟩ = false := frozen_at HL0.out.t
    have cte : (wc.alloc (.cells #[] 105)).cell? ⟨w.heap.size, 2, none⟩ = some (.slice (some ⟨r, 0, none⟩) l.length c0) := cell_at HLe.out.t rfl
    have fte : (wc.alloc (.cells #[] 105)).frozen? ⟨w.heap.size, 2, none⟩ = false := frozen_at HLe.out.t
    have ctx : (wc.alloc (.cells #[.string k, .string room, .string by_] 105)).cell? ⟨w.heap.size, 2, none⟩ = some (.slice (some ⟨r, 0, none⟩) l.length c0) := cell_at HLx.out.t rfl
    have ftx : (wc.alloc (.cells #[.string k, .string room, .string by_] 105)).frozen? ⟨w.heap.size, 2, none⟩ = false := frozen_at HLx.out.t
    have ctex : ((wc.alloc (.cells #[] 105)).alloc (.cells #[.string k, .string room, .string by_] 105)).cell? ⟨w.heap.size, 2, none⟩ = some (.slice (some ⟨r, 0, none⟩) l.length c0) := cell_at HLex.out.t rfl
    have ftex : ((wc.alloc (.cells #[] 105)).alloc (.cells #[.string k, .string room, .string by_] 105)).frozen? ⟨w.heap.size, 2, none⟩ = false := frozen_at HLex.out.t
    have ctxe : ((wc.alloc (.cells #[.string k, .string room, .string by_] 105)).alloc (.cells #[] 105)).cell? ⟨w.heap.size, 2, none⟩ = some (.slice (some ⟨r, 0, none⟩) l.length c0) := cell_at HLxe.out.t rfl
    have ftxe : ((wc.alloc (.cells #[.string k, .string room, .string by_] 105)).alloc (.cells #[] 105)).frozen? ⟨w.heap.size, 2, none⟩ = false := frozen_at HLxe.out.t
    have HOe := Lib.hid (show (wc.alloc (.cells #[] 105)).drew.ownsRow (w.heap.size + 1 + 1 + 1) 105 3 (.slice (some ⟨wc.heap.size, 0, none⟩) 0 0) 0 [] from ⟨rfl, .inr ⟨wc.heap.size, 0, #[], rfl, hwcb, heap_new_at wc _ _ rfl, Nat.le_refl _, by decide, rfl, rfl⟩⟩)
    have HOex := Lib.hid (show ((wc.alloc (.cells #[] 105)).alloc (.cells #[.string k, .string room, .string by_] 105)).drew.ownsRow (w.heap.size + 1 + 1 + 1) 105 3 (.slice (some ⟨wc.heap.size, 0, none⟩) 0 0) 0 [] from (HOe.out.alloc _))
    have HOxe := Lib.hid (show ((wc.alloc (.cells #[.string k, .string room, .string by_] 105)).alloc (.cells #[] 105)).drew.ownsRow (w.heap.size + 1 + 1 + 1) 105 3 (.slice (some ⟨wc.heap.size + 1, 0, none⟩) 0 0) 0 [] from ⟨rfl, .inr ⟨wc.heap.size + 1, 0, #[], rfl, Nat.le_succ_of_le hwcb, heap_new_at _ _ _ (by simp), Nat.le_refl _, by decide, rfl, rfl⟩⟩)
    have HRe := Lib.hid (show Rw (wc.alloc (.cells #[] 105)).drew 105 r c0 3 (rowsE l) from (HRW.out.same (HLe.out.b.block r hrl)))
    have HSe := Lib.hid (show Src (wc.alloc (.cells #[] 105)).drew 3 (some ⟨r, 0, none⟩) i c0 ((rowsE l).take i) from (by have := HRe.out.src (oneE l) (by omega) 0 i c0 (by simp; omega); simpa using this))
    have HRex := Lib.hid (show Rw ((wc.alloc (.cells #[] 105)).alloc (.cells #[.string k, .string room, .string by_] 105)).drew 105 r c0 3 (rowsE l) from (HRW.out.same (HLex.out.b.block r hrl)))
    have HSex := Lib.hid (show Src ((wc.alloc (.cells #[] 105)).alloc (.cells #[.string k, .string room, .string by_] 105)).drew 3 (some ⟨r, 0, none⟩) i c0 ((rowsE l).take i) from (by have := HRex.out.src (oneE l) (by omega) 0 i c0 (by simp; omega); simpa using this))
    have HRxe := Lib.hid (show Rw ((wc.alloc (.cells #[.string k, .string room, .string by_] 105)).alloc (.cells #[] 105)).drew 105 r c0 3 (rowsE l) from (HRW.out.same (HLxe.out.b.block r hrl)))
    have HSxe := Lib.hid (show Src ((wc.alloc (.cells #[.string k, .string room, .string by_] 105)).alloc (.cells #[] 105)).drew 3 (some ⟨r, 0, none⟩) i c0 ((rowsE l).take i) from (by have := HRxe.out.src (oneE l) (by omega) 0 i c0 (by simp; omega); simpa using this))
    have HXC := Lib.hid (show ∀ (W : World) (b : Nat), W.heap[b]? = some (.cells #[.string k, .string room, .string by_] 105 (0, 0)) → Src W 3 (some ⟨b, 0, none⟩) 1 1 [[.string k, .string room, .string by_]] from (fun W b h => src_one h rfl rfl rfl))
    have HBXE := Lib.hid (show ((wc.alloc (.cells #[.string k, .string room, .string by_] 105)).alloc (.cells #[] 105)).heap[wc.heap.size]? = some (.cells #[.string k, .string room, .string by_] 105 (0, 0)) from ((heap_old_at _ _ _ (by simp)).trans (heap_new_at _ _ _ rfl)))
    have HBEX := Lib.hid (show ((wc.alloc (.cells #[] 105)).alloc (.cells #[.string k, .string room, .string by_] 105)).heap[wc.heap.size + 1]? = some (.cells #[.string k, .string room, .string by_] 105 (0, 0)) from (heap_new_at _ _ _ (by simp)))
    have b0 : (0 : Int) ≤ (i : Int) := by omega
    have b1 : (i : Int) ≤ (c0 : Int) := by omega
    have b3 : (i : Int) ≤ (l.length : Int) := by omega
    have b4 : (l.length : Int) ≤ (c0 : Int) := by omega
    refine wt_start (S := fun W => W.cell? ⟨w.heap.size, 2, none⟩ = some (.slice (some ⟨r, 0, none⟩) l.length c0)) 18 (by kernel_rfl) ⟨by kernel_rfl, by kernel_rfl, by kernel_rfl, by decide⟩ ?_
    intro HTK
    refine wt_take (i := 1) (v := ?_) HTK.out rfl (by decide) (by kernel_rfl) (by kernel_rfl) (fun _ _ _ h => h) (by exact ct0) (Or.inl ⟨by rfl, ?_⟩) ?_
    rotate_left
    · intro W hSw
      try dsimp only at hSw
      go_simp
      try (with_reducible rfl)
    try simp only [Act.put, List.setIfInBounds_toArray, List.set_cons_zero, List.set_cons_succ]
    refine wt_take (i := 3) (v := ?_) HTK.out rfl (by decide) (by kernel_rfl) (by kernel_rfl) (fun _ _ _ h => h) (by exact ct0) (Or.inl ⟨by rfl, ?_⟩) ?_
    rotate_left
    · intro W hSw
      try dsimp only at hSw
      go_simp
      try (with_reducible rfl)
    try simp only [Act.put, List.setIfInBounds_toArray, List.set_cons_zero, List.set_cons_succ]
    refine wt_take (i := 6) (v := ?_) HTK.out rfl (by decide) (by kernel_rfl) (by kernel_rfl) (fun _ _ _ h => h) (by exact ct0) (Or.inl ⟨by rfl, ?_⟩) ?_
    rotate_left
    · intro W hSw
      try dsimp only at hSw
      go_simp
      try (with_reducible rfl)
    try simp only [Act.put, List.setIfInBounds_toArray, List.set_cons_zero, List.set_cons_succ]
    refine wt_take (i := 7) (v := ?_) HTK.out rfl (by decide) (by kernel_rfl) (by kernel_rfl) (fun _ _ _ h => h) (by exact ct0) (Or.inl ⟨by rfl, ?_⟩) ?_
    rotate_left
    · intro W hSw
      try dsimp only at hSw
      go_simp
      try (with_reducible rfl)
    try simp only [Act.put, List.setIfInBounds_toArray, List.set_cons_zero, List.set_cons_succ]
    refine wt_take (i := 8) (v := ?_) HTK.out rfl (by decide) (by kernel_rfl) (by kernel_rfl) (fun _ _ _ h => h) (by exact ct0) (Or.inl ⟨by rfl, ?_⟩) ?_
    rotate_left
    · intro W hSw
      try dsimp only at hSw
      go_simp
      try (with_reducible rfl)
    try simp only [Act.put, List.setIfInBounds_toArray, List.set_cons_zero, List.set_cons_succ]
    refine wt_take (i := 9) (v := ?_) HTK.out rfl (by decide) (by kernel_rfl) (by kernel_rfl) (fun _ _ _ h => h) (by exact ct0) (Or.inl ⟨by rfl, ?_⟩) ?_
    rotate_left
    · intro W hSw
      try dsimp only at hSw
      go_simp
      try (with_reducible rfl)
    try simp only [Act.put, List.setIfInBounds_toArray, List.set_cons_zero, List.set_cons_succ]
    refine wt_take (i := 12) (v := ?_) HTK.out rfl (by decide) (by kernel_rfl) (by kernel_rfl) (fun _ _ _ h => h) (by exact ct0) (Or.inl ⟨by rfl, ?_⟩) ?_
    rotate_left
    · intro W hSw
      try dsimp only at hSw
      go_simp
      try (with_reducible rfl)
    try simp only [Act.put, List.setIfInBounds_toArray, List.set_cons_zero, List.set_cons_succ]
    refine wt_take (i := 14) (v := ?_) HTK.out rfl (by decide) (by kernel_rfl) (by kernel_rfl) (fun _ _ _ h => h) (by exact ct0) (Or.inl ⟨by rfl, ?_⟩) ?_
    rotate_left
    · intro W hSw
      try dsimp only at hSw
      go_simp
      try (with_reducible rfl)
    try simp only [Act.put, List.setIfInBounds_toArray, List.set_cons_zero, List.set_cons_succ]
    refine wt_take (i := 2) (v := ?_) HTK.out rfl (by decide) (by kernel_rfl) (by kernel_rfl) (fun _ _ _ h => h) (by exact ct0) (Or.inl ⟨by rfl, ?_⟩) ?_
    rotate_left
    · intro W hSw
      try dsimp only at hSw
      go_simp
      try (with_reducible rfl)
    try simp only [Act.put, List.setIfInBounds_toArray, List.set_cons_zero, List.set_cons_succ]
    refine wt_take (i := 13) (v := ?_) HTK.out rfl (by decide) (by kernel_rfl) (by kernel_rfl) (fun _ _ _ h => h) (by exact ct0) (Or.inl ⟨by rfl, ?_⟩) ?_
    rotate_left
    · intro W hSw
      try dsimp only at hSw
      go_simp
      try (with_reducible rfl)
    try simp only [Act.put, List.setIfInBounds_toArray, List.set_cons_zero, List.set_cons_succ]
    refine wt_take (i := 4) (v := ?_) HTK.out rfl (by decide) (by kernel_rfl) (by kernel_rfl) (fun _ _ _ h => h) (by exact ct0) (Or.inl ⟨by rfl, ?_⟩) ?_
    rotate_left
    · intro W hSw
      try dsimp only at hSw
      go_simp
      try (with_reducible rfl)
    try simp only [Act.put, List.setIfInBounds_toArray, List.set_cons_zero, List.set_cons_succ]
    refine wt_take (i := 15) (v := ?_) HTK.out rfl (by decide) (by kernel_rfl) (by kernel_rfl) (fun _ _ _ h => h) (by exact ct0) (Or.inl ⟨by rfl, ?_⟩) ?_
    rotate_left
    · intro W hSw
      try dsimp only at hSw
      go_simp
      try (with_reducible rfl)
    try simp only [Act.put, List.setIfInBounds_toArray, List.set_cons_zero, List.set_cons_succ]
    refine wt_ready (rs := [0, 10]) (by kernel_rfl) (by simp) ?_
    refine AllT.cons rfl (by decide) (fun K hK => ?_) ?_
    · go_simp
      refine hK.out _ _ (by exact cte) ?_
      clear hK K
      try simp only [Act.put, List.setIfInBounds_toArray, List.set_cons_zero, List.set_cons_succ]
      refine wt_ready (rs := [5, 10]) (by kernel_rfl) (by simp) ?_
      refine AllT.cons rfl (by decide) (fun K hK => ?_) ?_
      · refine step_append_src _ (by rfl) _ _ _ (by rfl) (w.heap.size + 1 + 1 + 1) 105 i0 _ 3 48 Tryz.underlying32 HIN.out HZ0.out HZ1.out HZ2.out rfl (by omega) _ 0 [] (by rfl) HOe.out _ i c0 ((rowsE l).take i) (by rfl) HSe.out (by unfold maxLen; omega) (by omega) (by simp; omega) ?_
        intro a1 cap1 w2 hown1 hgrow1 hat1
        try simp only [Nat.zero_add, List.nil_append] at hown1 hat1 ⊢
        have hob1 : ∀ j, (Value.slice a1 i cap1).ownBlock = some j → w.heap.size + 1 + 1 < j := by
          intro j hj
          rcases hat1 with h | h
          · rw [h] at hj; simp only [Value.ownBlock] at hj; injection hj with hj; omega
          · rw [h] at hj; injection hj with hj; rw [← hj]; simp; omega
        have hl2 : Laid3 w server most (some ⟨r, 0, none⟩) l.length c0 w2 := HLe.out.drew.grown hgrow1 (fun j hj => by simp only [Value.ownBlock] at hj; injection hj with hj; omega)
        have hr2 : Rw w2 105 r c0 3 (rowsE l) := HRe.out.same (hgrow1.block _ (by simp; omega) (by simp only [Value.ownBlock]; intro he; injection he with he; omega))
        have ct2 : w2.cell? ⟨w.heap.size, 2, none⟩ = some (.slice (some ⟨r, 0, none⟩) l.length c0) := cell_at hl2.t rfl
        have ft2 : w2.frozen? ⟨w.heap.size, 2, none⟩ = false := frozen_at hl2.t
        have hown1' := hown1.alloc (.cells #[.string k, .string room, .string by_] 105)
        have hl2' : Laid3 w server most (some ⟨r, 0, none⟩) l.length c0 (w2.alloc (.cells #[.string k, .string room, .string by_] 105)) := hl2.alloc3 _
        have hx2' : Src (w2.alloc (.cells #[.string k, .string room, .string by_] 105)) 3 (some ⟨w2.heap.size, 0, none⟩) 1 1 [[.string k, .string room, .string by_]] := HXC.out _ _ (heap_new_at _ _ _ rfl)
        have ct2' : (w2.alloc (.cells #[.string k, .string room, .string by_] 105)).cell? ⟨w.heap.size, 2, none⟩ = some (.slice (some ⟨r, 0, none⟩) l.length c0) := cell_at hl2'.t rfl
        have ft2' : (w2.alloc (.cells #[.string k, .string room, .string by_] 105)).frozen? ⟨w.heap.size, 2, none⟩ = false := frozen_at hl2'.t
        have hr2' : Rw (w2.alloc (.cells #[.string k, .string room, .string by_] 105)) 105 r c0 3 (rowsE l) := hr2.same (heap_old_at _ _ _ hr2.lt)
        have HOWN := Lib.hid hown1'
        have HL2 := Lib.hid hl2'
        have HX2 := Lib.hid hx2'
        have HR2 := Lib.hid hr2'
        clear hown1 hgrow1 hat1 hl2 hx2' hr2 hown1' hl2' hr2'
        refine hK.out _ _ (by exact ct2) ?_
        clear hK K
        try simp only [Act.put, List.setIfInBounds_toArray, List.set_cons_zero, List.set_cons_succ]
        refine wt_ready (rs := [10]) (by kernel_rfl) (by simp) ?_
        refine AllT.cons rfl (by decide) (fun K hK => ?_) ?_
        · go_simp
          refine hK.out _ _ (by exact ct2') ?_
          clear hK K
          try simp only [Act.put, List.setIfInBounds_toArray, List.set_cons_zero, List.set_cons_succ]
          refine wt_ready (rs := [11]) (by kernel_rfl) (by simp) ?_
          refine AllT.cons rfl (by decide) (fun K hK => ?_) ?_
          · refine step_append_src _ (by rfl) _ _ _ (by rfl) (w.heap.size + 1 + 1 + 1) 105 i0 _ 3 48 Tryz.underlying32 HIN.out HZ0.out HZ1.out HZ2.out rfl (by omega) _ _ _ (by rfl) HOWN.out _ 1 1 [[.string k, .string room, .string by_]] (by rfl) HX2.out (by unfold maxLen; omega) (by omega) (by have := blk_lt HL2.out.e; omega) ?_
            intro a2 cap2 w3 hown2 hgrow2 hat2
            try simp only [Nat.zero_add] at hown2 hat2 ⊢
            have hob2 : ∀ j, (Value.slice a2 (i + 1) cap2).ownBlock = some j → w.heap.size + 1 + 1 < j := by
              intro j hj
              rcases hat2 with h | h
              · rw [h] at hj; exact hob1 j hj
              · rw [h] at hj; injection hj with hj; have := blk_lt HL2.out.e; omega
            have hl3 : Laid3 w server most (some ⟨r, 0, none⟩) l.length c0 w3 := HL2.out.grown hgrow2 hob1
            have ct3 : w3.cell? ⟨w.heap.size, 2, none⟩ = some (.slice (some ⟨r, 0, none⟩) l.length c0) := cell_at hl3.t rfl
            have ft3 : w3.frozen? ⟨w.heap.size, 2, none⟩ = false := frozen_at hl3.t
            have hr3 : Rw w3 105 r c0 3 (rowsE l) := HR2.out.same (hgrow2.block _ HR2.out.lt (fun he => by have := hob1 _ he.symm; omega))
            have hx3 := src_rest hr3 i (by omega)
            have HOWN2 := Lib.hid hown2
            have HL3 := Lib.hid hl3
            have HX3 := Lib.hid hx3
            clear hown2 hgrow2 hat2 hl3 hx3
            refine hK.out _ _ (by exact ct3) ?_
            clear hK K
            try simp only [Act.put, List.setIfInBounds_toArray, List.set_cons_zero, List.set_cons_succ]
            refine wt_ready (rs := [16]) (by kernel_rfl) (by simp) ?_
            refine AllT.cons rfl (by decide) (fun K hK => ?_) ?_
            · refine step_append_src _ (by rfl) _ _ _ (by rfl) (w.heap.size + 1 + 1 + 1) 105 i0 _ 3 48 Tryz.underlying32 HIN.out HZ0.out HZ1.out HZ2.out rfl (by omega) _ _ _ (by rfl) HOWN2.out _ _ _ ((rowsE l).drop i) (by rfl) HX3.out (by unfold maxLen; omega) (by omega) (by have := blk_lt HL3.out.e; omega) ?_
              intro a3 cap3 w4 hown3 hgrow3 hat3
              have hl4 : Laid3 w server most (some ⟨r, 0, none⟩) l.length c0 w4 := HL3.out.grown hgrow3 hob2
              have ft4 : w4.frozen? ⟨w.heap.size, 2, none⟩ = false := frozen_at hl4.t
              have ct4 : w4.cell? ⟨w.heap.size, 2, none⟩ = some (.slice (some ⟨r, 0, none⟩) l.length c0) := cell_at hl4.t rfl
              have HOWN3 := Lib.hid hown3
              have HL4 := Lib.hid hl4
              clear hown3 hgrow3 hat3 hl4
              refine hK.out _ _ (by exact ct4) ?_
              clear hK K
              try simp only [Act.put, List.setIfInBounds_toArray, List.set_cons_zero, List.set_cons_succ]
              refine wt_take (i := 17) (v := ?_) HTK.out rfl (by decide) (by kernel_rfl) (by kernel_rfl) (fun _ _ _ h => h) (by exact ct4) (Or.inl ⟨by rfl, ?_⟩) ?_
              rotate_left
              · intro W hSw
                try dsimp only at hSw
                go_simp
                try (with_reducible rfl)
              try simp only [Act.put, List.setIfInBounds_toArray, List.set_cons_zero, List.set_cons_succ]
              refine wt_last (k := 18) (by kernel_rfl) (by kernel_rfl) (by decide) rfl (fun K hK => ?_)
              go_simp
              refine hK.out _ _ ?_
              clear hK K
              try simp only [Act.put, List.setIfInBounds_toArray, List.set_cons_zero, List.set_cons_succ]
              have hl5 := HL4.out.put a3 (i + 1 + (l.length - i)) cap3
              obtain ⟨s', hs', hro⟩ := RowOf.of_own (l := rowsE (insR ⟨k, room, by_⟩ l)) (by rw [insR_flat ⟨k, room, by_⟩ HPL.out]; exact HOWN3.out) (fun y hy => by obtain ⟨z, _, rfl⟩ := List.mem_map.1 hy; rfl) (by decide) (by simp [insR_length] <;> omega)
              obtain ⟨sa, sn, sc⟩ := s'
              simp only [Sl.val] at hs'
              injection hs' with hs1 hs2 hs3
              subst hs1 hs2 hs3
              have HL5 := Lib.hid hl5
              have HRO := Lib.hid hro
              clear hl5 hro
              generalize (if c0 = i then some (⟨r, 0, none⟩ : Addr) else some ⟨r, i * 3, none⟩) = aw
              go_wp2_with fail
              go_meet
              exact ⟨⟨a3, _, cap3⟩, HL5.out, (HRO.out.same (by simp [World.setCell]) (fun g hg hP => Below.heap_setCell _ _ _ _ (by show g ≠ w.heap.size; omega))).mono (fun g _ h => by omega)⟩
            exact AllT.nil
          exact AllT.nil
        exact AllT.nil
      refine AllT.cons rfl (by decide) (fun K hK => ?_) ?_
      · go_simp
        refine hK.out _ _ (by exact ctex) ?_
        clear hK K
        try simp only [Act.put, List.setIfInBounds_toArray, List.set_cons_zero, List.set_cons_succ]
        refine wt_ready (rs := [5]) (by kernel_rfl) (by simp) ?_
        refine AllT.cons rfl (by decide) (fun K hK => ?_) ?_
        · refine step_append_src _ (by rfl) _ _ _ (by rfl) (w.heap.size + 1 + 1 + 1) 105 i0 _ 3 48 Tryz.underlying32 HIN.out HZ0.out HZ1.out HZ2.out rfl (by omega) _ 0 [] (by rfl) HOex.out _ i c0 ((rowsE l).take i) (by rfl) HSex.out (by unfold maxLen; omega) (by omega) (by simp; omega) ?_
          intro a1 cap1 w2 hown1 hgrow1 hat1
          try simp only [Nat.zero_add, List.nil_append] at hown1 hat1 ⊢
          have hob1 : ∀ j, (Value.slice a1 i cap1).ownBlock = some j → w.heap.size + 1 + 1 < j := by
            intro j hj
            rcases hat1 with h | h
            · rw [h] at hj; simp only [Value.ownBlock] at hj; injection hj with hj; omega
            · rw [h] at hj; injection hj with hj; rw [← hj]; simp; omega
          have hl2 : Laid3 w server most (some ⟨r, 0, none⟩) l.length c0 w2 := HLex.out.drew.grown hgrow1 (fun j hj => by simp only [Value.ownBlock] at hj; injection hj with hj; omega)
          have hr2 : Rw w2 105 r c0 3 (rowsE l) := HRex.out.same (hgrow1.block _ (by simp; omega) (by simp only [Value.ownBlock]; intro he; injection he with he; omega))
          have ct2 : w2.cell? ⟨w.heap.size, 2, none⟩ = some (.slice (some ⟨r, 0, none⟩) l.length c0) := cell_at hl2.t rfl
          have ft2 : w2.frozen? ⟨w.heap.size, 2, none⟩ = false := frozen_at hl2.t
          have hx2' : Src w2 3 (some ⟨wc.heap.size + 1, 0, none⟩) 1 1 [[.string k, .string room, .string by_]] := HXC.out _ _ ((hgrow1.block _ (by simp <;> omega) (by simp only [Value.ownBlock]; intro he; injection he with he; omega)).trans HBEX.out)
          have HOWN := Lib.hid hown1
          have HL2 := Lib.hid hl2
          have HX2 := Lib.hid hx2'
          have HR2 := Lib.hid hr2
          clear hown1 hgrow1 hat1 hl2 hx2' hr2
          refine hK.out _ _ (by exact ct2) ?_
          clear hK K
          try simp only [Act.put, List.setIfInBounds_toArray, List.set_cons_zero, List.set_cons_succ]
          refine wt_ready (rs := [11]) (by kernel_rfl) (by simp) ?_
          refine AllT.cons rfl (by decide) (fun K hK => ?_) ?_
          · refine step_append_src _ (by rfl) _ _ _ (by rfl) (w.heap.size + 1 + 1 + 1) 105 i0 _ 3 48 Tryz.underlying32 HIN.out HZ0.out HZ1.out HZ2.out rfl (by omega) _ _ _ (by rfl) HOWN.out _ 1 1 [[.string k, .string room, .string by_]] (by rfl) HX2.out (by unfold maxLen; omega) (by omega) (by have := blk_lt HL2.out.e; omega) ?_
            intro a2 cap2 w3 hown2 hgrow2 hat2
            try simp only [Nat.zero_add] at hown2 hat2 ⊢
            have hob2 : ∀ j, (Value.slice a2 (i + 1) cap2).ownBlock = some j → w.heap.size + 1 + 1 < j := by
              intro j hj
              rcases hat2 with h | h
              · rw [h] at hj; exact hob1 j hj
              · rw [h] at hj; injection hj with hj; have := blk_lt HL2.out.e; omega
            have hl3 : Laid3 w server most (some ⟨r, 0, none⟩) l.length c0 w3 := HL2.out.grown hgrow2 hob1
            have ct3 : w3.cell? ⟨w.heap.size, 2, none⟩ = some (.slice (some ⟨r, 0, none⟩) l.length c0) := cell_at hl3.t rfl
            have ft3 : w3.frozen? ⟨w.heap.size, 2, none⟩ = false := frozen_at hl3.t
            have hr3 : Rw w3 105 r c0 3 (rowsE l) := HR2.out.same (hgrow2.block _ HR2.out.lt (fun he => by have := hob1 _ he.symm; omega))
            have hx3 := src_rest hr3 i (by omega)
            have HOWN2 := Lib.hid hown2
            have HL3 := Lib.hid hl3
            have HX3 := Lib.hid hx3
            clear hown2 hgrow2 hat2 hl3 hx3
            refine hK.out _ _ (by exact ct3) ?_
            clear hK K
            try simp only [Act.put, List.setIfInBounds_toArray, List.set_cons_zero, List.set_cons_succ]
            refine wt_ready (rs := [16]) (by kernel_rfl) (by simp) ?_
            refine AllT.cons rfl (by decide) (fun K hK => ?_) ?_
            · refine step_append_src _ (by rfl) _ _ _ (by rfl) (w.heap.size + 1 + 1 + 1) 105 i0 _ 3 48 Tryz.underlying32 HIN.out HZ0.out HZ1.out HZ2.out rfl (by omega) _ _ _ (by rfl) HOWN2.out _ _ _ ((rowsE l).drop i) (by rfl) HX3.out (by unfold maxLen; omega) (by omega) (by have := blk_lt HL3.out.e; omega) ?_
              intro a3 cap3 w4 hown3 hgrow3 hat3
              have hl4 : Laid3 w server most (some ⟨r, 0, none⟩) l.length c0 w4 := HL3.out.grown hgrow3 hob2
              have ft4 : w4.frozen? ⟨w.heap.size, 2, none⟩ = false := frozen_at hl4.t
              have ct4 : w4.cell? ⟨w.heap.size, 2, none⟩ = some (.slice (some ⟨r, 0, none⟩) l.length c0) := cell_at hl4.t rfl
              have HOWN3 := Lib.hid hown3
              have HL4 := Lib.hid hl4
              clear hown3 hgrow3 hat3 hl4
              refine hK.out _ _ (by exact ct4) ?_
              clear hK K
              try simp only [Act.put, List.setIfInBounds_toArray, List.set_cons_zero, List.set_cons_succ]
              refine wt_take (i := 17) (v := ?_) HTK.out rfl (by decide) (by kernel_rfl) (by kernel_rfl) (fun _ _ _ h => h) (by exact ct4) (Or.inl ⟨by rfl, ?_⟩) ?_
              rotate_left
              · intro W hSw
                try dsimp only at hSw
                go_simp
                try (with_reducible rfl)
              try simp only [Act.put, List.setIfInBounds_toArray, List.set_cons_zero, List.set_cons_succ]
              refine wt_last (k := 18) (by kernel_rfl) (by kernel_rfl) (by decide) rfl (fun K hK => ?_)
              go_simp
              refine hK.out _ _ ?_
              clear hK K
              try simp only [Act.put, List.setIfInBounds_toArray, List.set_cons_zero, List.set_cons_succ]
              have hl5 := HL4.out.put a3 (i + 1 + (l.length - i)) cap3
              obtain ⟨s', hs', hro⟩ := RowOf.of_own (l := rowsE (insR ⟨k, room, by_⟩ l)) (by rw [insR_flat ⟨k, room, by_⟩ HPL.out]; exact HOWN3.out) (fun y hy => by obtain ⟨z, _, rfl⟩ := List.mem_map.1 hy; rfl) (by decide) (by simp [insR_length] <;> omega)
              obtain ⟨sa, sn, sc⟩ := s'
              simp only [Sl.val] at hs'
              injection hs' with hs1 hs2 hs3
              subst hs1 hs2 hs3
              have HL5 := Lib.hid hl5
              have HRO := Lib.hid hro
              clear hl5 hro
              generalize (if c0 = i then some (⟨r, 0, none⟩ : Addr) else some ⟨r, i * 3, none⟩) = aw
              go_wp2_with fail
              go_meet
              exact ⟨⟨a3, _, cap3⟩, HL5.out, (HRO.out.same (by simp [World.setCell]) (fun g hg hP => Below.heap_setCell _ _ _ _ (by show g ≠ w.heap.size; omega))).mono (fun g _ h => by omega)⟩
            exact AllT.nil
          exact AllT.nil
        exact AllT.nil
      exact AllT.nil
    refine AllT.cons rfl (by decide) (fun K hK => ?_) ?_
    · go_simp
      refine hK.out _ _ (by exact ctx) ?_
      clear hK K
      try simp only [Act.put, List.setIfInBounds_toArray, List.set_cons_zero, List.set_cons_succ]
      refine wt_ready (rs := [0]) (by kernel_rfl) (by simp) ?_
      refine AllT.cons rfl (by decide) (fun K hK => ?_) ?_
      · go_simp
        refine hK.out _ _ (by exact ctxe) ?_
        clear hK K
        try simp only [Act.put, List.setIfInBounds_toArray, List.set_cons_zero, List.set_cons_succ]
        refine wt_ready (rs := [5]) (by kernel_rfl) (by simp) ?_
        refine AllT.cons rfl (by decide) (fun K hK => ?_) ?_
        · refine step_append_src _ (by rfl) _ _ _ (by rfl) (w.heap.size + 1 + 1 + 1) 105 i0 _ 3 48 Tryz.underlying32 HIN.out HZ0.out HZ1.out HZ2.out rfl (by omega) _ 0 [] (by rfl) HOxe.out _ i c0 ((rowsE l).take i) (by rfl) HSxe.out (by unfold maxLen; omega) (by omega) (by simp; omega) ?_
          intro a1 cap1 w2 hown1 hgrow1 hat1
          try simp only [Nat.zero_add, List.nil_append] at hown1 hat1 ⊢
          have hob1 : ∀ j, (Value.slice a1 i cap1).ownBlock = some j → w.heap.size + 1 + 1 < j := by
            intro j hj
            rcases hat1 with h | h
            · rw [h] at hj; simp only [Value.ownBlock] at hj; injection hj with hj; omega
            · rw [h] at hj; injection hj with hj; rw [← hj]; simp; omega
          have hl2 : Laid3 w server most (some ⟨r, 0, none⟩) l.length c0 w2 := HLxe.out.drew.grown hgrow1 (fun j hj => by simp only [Value.ownBlock] at hj; injection hj with hj; omega)
          have hr2 : Rw w2 105 r c0 3 (rowsE l) := HRxe.out.same (hgrow1.block _ (by simp; omega) (by simp only [Value.ownBlock]; intro he; injection he with he; omega))
          have ct2 : w2.cell? ⟨w.heap.size, 2, none⟩ = some (.slice (some ⟨r, 0, none⟩) l.length c0) := cell_at hl2.t rfl
          have ft2 : w2.frozen? ⟨w.heap.size, 2, none⟩ = false := frozen_at hl2.t
          have hx2' : Src w2 3 (some ⟨wc.heap.size, 0, none⟩) 1 1 [[.string k, .string room, .string by_]] := HXC.out _ _ ((hgrow1.block _ (by simp <;> omega) (by simp only [Value.ownBlock]; intro he; injection he with he; omega)).trans HBXE.out)
          have HOWN := Lib.hid hown1
          have HL2 := Lib.hid hl2
          have HX2 := Lib.hid hx2'
          have HR2 := Lib.hid hr2
          clear hown1 hgrow1 hat1 hl2 hx2' hr2
          refine hK.out _ _ (by exact ct2) ?_
          clear hK K
          try simp only [Act.put, List.setIfInBounds_toArray, List.set_cons_zero, List.set_cons_succ]
          refine wt_ready (rs := [11]) (by kernel_rfl) (by simp) ?_
          refine AllT.cons rfl (by decide) (fun K hK => ?_) ?_
          · refine step_append_src _ (by rfl) _ _ _ (by rfl) (w.heap.size + 1 + 1 + 1) 105 i0 _ 3 48 Tryz.underlying32 HIN.out HZ0.out HZ1.out HZ2.out rfl (by omega) _ _ _ (by rfl) HOWN.out _ 1 1 [[.string k, .string room, .string by_]] (by rfl) HX2.out (by unfold maxLen; omega) (by omega) (by have := blk_lt HL2.out.e; omega) ?_
            intro a2 cap2 w3 hown2 hgrow2 hat2
            try simp only [Nat.zero_add] at hown2 hat2 ⊢
            have hob2 : ∀ j, (Value.slice a2 (i + 1) cap2).ownBlock = some j → w.heap.size + 1 + 1 < j := by
              intro j hj
              rcases hat2 with h | h
              · rw [h] at hj; exact hob1 j hj
              · rw [h] at hj; injection hj with hj; have := blk_lt HL2.out.e; omega
            have hl3 : Laid3 w server most (some ⟨r, 0, none⟩) l.length c0 w3 := HL2.out.grown hgrow2 hob1
            have ct3 : w3.cell? ⟨w.heap.size, 2, none⟩ = some (.slice (some ⟨r, 0, none⟩) l.length c0) := cell_at hl3.t rfl
            have ft3 : w3.frozen? ⟨w.heap.size, 2, none⟩ = false := frozen_at hl3.t
            have hr3 : Rw w3 105 r c0 3 (rowsE l) := HR2.out.same (hgrow2.block _ HR2.out.lt (fun he => by have := hob1 _ he.symm; omega))
            have hx3 := src_rest hr3 i (by omega)
            have HOWN2 := Lib.hid hown2
            have HL3 := Lib.hid hl3
            have HX3 := Lib.hid hx3
            clear hown2 hgrow2 hat2 hl3 hx3
            refine hK.out _ _ (by exact ct3) ?_
            clear hK K
            try simp only [Act.put, List.setIfInBounds_toArray, List.set_cons_zero, List.set_cons_succ]
            refine wt_ready (rs := [16]) (by kernel_rfl) (by simp) ?_
            refine AllT.cons rfl (by decide) (fun K hK => ?_) ?_
            · refine step_append_src _ (by rfl) _ _ _ (by rfl) (w.heap.size + 1 + 1 + 1) 105 i0 _ 3 48 Tryz.underlying32 HIN.out HZ0.out HZ1.out HZ2.out rfl (by omega) _ _ _ (by rfl) HOWN2.out _ _ _ ((rowsE l).drop i) (by rfl) HX3.out (by unfold maxLen; omega) (by omega) (by have := blk_lt HL3.out.e; omega) ?_
              intro a3 cap3 w4 hown3 hgrow3 hat3
              have hl4 : Laid3 w server most (some ⟨r, 0, none⟩) l.length c0 w4 := HL3.out.grown hgrow3 hob2
              have ft4 : w4.frozen? ⟨w.heap.size, 2, none⟩ = false := frozen_at hl4.t
              have ct4 : w4.cell? ⟨w.heap.size, 2, none⟩ = some (.slice (some ⟨r, 0, none⟩) l.length c0) := cell_at hl4.t rfl
              have HOWN3 := Lib.hid hown3
              have HL4 := Lib.hid hl4
              clear hown3 hgrow3 hat3 hl4
              refine hK.out _ _ (by exact ct4) ?_
              clear hK K
              try simp only [Act.put, List.setIfInBounds_toArray, List.set_cons_zero, List.set_cons_succ]
              refine wt_take (i := 17) (v := ?_) HTK.out rfl (by decide) (by kernel_rfl) (by kernel_rfl) (fun _ _ _ h => h) (by exact ct4) (Or.inl ⟨by rfl, ?_⟩) ?_
              rotate_left
              · intro W hSw
                try dsimp only at hSw
                go_simp
                try (with_reducible rfl)
              try simp only [Act.put, List.setIfInBounds_toArray, List.set_cons_zero, List.set_cons_succ]
              refine wt_last (k := 18) (by kernel_rfl) (by kernel_rfl) (by decide) rfl (fun K hK => ?_)
              go_simp
              refine hK.out _ _ ?_
              clear hK K
              try simp only [Act.put, List.setIfInBounds_toArray, List.set_cons_zero, List.set_cons_succ]
              have hl5 := HL4.out.put a3 (i + 1 + (l.length - i)) cap3
              obtain ⟨s', hs', hro⟩ := RowOf.of_own (l := rowsE (insR ⟨k, room, by_⟩ l)) (by rw [insR_flat ⟨k, room, by_⟩ HPL.out]; exact HOWN3.out) (fun y hy => by obtain ⟨z, _, rfl⟩ := List.mem_map.1 hy; rfl) (by decide) (by simp [insR_length] <;> omega)
              obtain ⟨sa, sn, sc⟩ := s'
              simp only [Sl.val] at hs'
              injection hs' with hs1 hs2 hs3
              subst hs1 hs2 hs3
              have HL5 := Lib.hid hl5
              have HRO := Lib.hid hro
              clear hl5 hro
              generalize (if c0 = i then some (⟨r, 0, none⟩ : Addr) else some ⟨r, i * 3, none⟩) = aw
              go_wp2_with fail
              go_meet
              exact ⟨⟨a3, _, cap3⟩, HL5.out, (HRO.out.same (by simp [World.setCell]) (fun g hg hP => Below.heap_setCell _ _ _ _ (by show g ≠ w.heap.size; omega))).mono (fun g _ h => by omega)⟩
            exact AllT.nil
          exact AllT.nil
        exact AllT.nil
      exact AllT.nil
    exact AllT.nil
  case rest =>
    clear t0 t1 t2 r0 r1 r2 e0 e1 e2 rz ez tz
    obtain ⟨⟨sa, sn, sc⟩, hl, hro⟩ := hcut
    have t0 := cell_at (j := 0) hl.t rfl
    have t1 := cell_at (j := 1) hl.t rfl
    have t2 := cell_at (j := 2) hl.t rfl
    have r0 := cell_at (j := 0) hl.r rfl
    have r1 := cell_at (j := 1) hl.r rfl
    have r2 := cell_at (j := 2) hl.r rfl
    have e0 := cell_at (j := 0) hl.e rfl
    have e1 := cell_at (j := 1) hl.e rfl
    have e2 := cell_at (j := 2) hl.e rfl
    have rz : ∀ j, wc.frozen? ⟨w.heap.size + 1, j, none⟩ = false := fun j => frozen_at hl.r
    have ez : ∀ j, wc.frozen? ⟨w.heap.size + 1 + 1, j, none⟩ = false := fun j => frozen_at hl.e
    have HL4 := Lib.hid hl
    have HRO := Lib.hid hro
    clear hl hro
    go_wp2_with fail
    go_region_law (go_simp; go_at_call 31; refine (rnone_calls _).mono ?_; rintro e wv ⟨rfl, hb⟩
                   have hl : Laid3 w server most sa sn sc wv := by first | exact HL4.out.drew.next hb | exact HL4.out.next hb
                   have hrv : RowOf wv (fun g => w.heap.size + 1 + 1 < g) 105 3 ⟨sa, sn, sc⟩ (rowsE (insR ⟨k, room, by_⟩ l)) := HRO.out.same hb.size (fun g hg _ => hb.block g hg)
                   have t0 := cell_at (j := 0) hl.t rfl
                   have t1 := cell_at (j := 1) hl.t rfl
                   have t2 := cell_at (j := 2) hl.t rfl
                   have r0 := cell_at (j := 0) hl.r rfl
                   have r1 := cell_at (j := 1) hl.r rfl
                   have r2 := cell_at (j := 2) hl.r rfl
                   have e0 := cell_at (j := 0) hl.e rfl
                   have e1 := cell_at (j := 1) hl.e rfl
                   have e2 := cell_at (j := 2) hl.e rfl
                   have rz : ∀ j, wv.frozen? ⟨w.heap.size + 1, j, none⟩ = false := fun j => frozen_at hl.r
                   have ez : ∀ j, wv.frozen? ⟨w.heap.size + 1 + 1, j, none⟩ = false := fun j => frozen_at hl.e
                   have HLV := Lib.hid hl
                   have HRV := Lib.hid hrv
                   clear hl hb hrv
                   simp only [erV, eCells])
    all_goals (go_wp2_with fail)
    all_goals first
    | (refine bodyPost_ret (res_TE rfl _ _ (w.heap.size + 1) (w.heap.size + 1 + 1) #[.string server, .int .i64 most, .slice sa sn sc] #[.int .i64 0, .int .i64 (-1), .string ⟨#[]⟩] rfl (HLV.out.fin _ _ _ _ _ _).1 rfl rfl (HLV.out.fin _ _ _ _ _ _).2.1 rfl) rfl ?_
       exact ⟨⟨sa, sn, sc⟩, rfl, (HRV.out.same (by simp [World.setCell]) (fun g hg hP => (row3_other (by omega)).trans (row3_other (by omega)))).mono (fun g _ h => by omega), (HLV.out.fin _ _ _ _ _ _).2.2⟩)
    | (refine bodyPost_ret (res_TE rfl _ _ (w.heap.size + 1) (w.heap.size + 1 + 1) #[.string server, .int .i64 most, .slice sa sn sc] #[.int .i64 0, .int .i64 (-1), .string ⟨#[]⟩] rfl (HLV.out.fin' _ _ _ _ _ _).1 rfl rfl (HLV.out.fin' _ _ _ _ _ _).2.1 rfl) rfl ?_
       exact ⟨⟨sa, sn, sc⟩, rfl, (HRV.out.same (by simp [World.setCell]) (fun g hg hP => (row3_other (by omega)).trans (row3_other (by omega)))).mono (fun g _ h => by omega), (HLV.out.fin' _ _ _ _ _ _).2.2⟩)
end Go.Proofs.YtgnoaeldmpbjmaaGreatDoor
/- The document's table: an alias is taken by another one who may. -/
set_option linter.unusedVariables false
set_option linter.unusedSimpArgs false
namespace Go.Proofs.YtgnoaeldmpbjmaaGreatDoor
open Go.RowKit

set_option maxRecDepth 100000 in
set_option maxHeartbeats 4000000 in
theorem rdrop_may (w : World) (server : ByteArray) (most : Int) (s : Sl) (P : Nat → Prop) (l : List En) (k by_ : ByteArray) (i : Nat) (x : En) (hr : RowOf w P 105 3 s (rowsE l)) (hn : l.length ≤ 1000000) (hk : idxE l k = i) (hx : l[i]? = some x) (hb : (x.b.toList == by_.toList) = false) :
    Calls Tryz.prog 32 #[.agg (tCells server most s), .string k, .string by_, .bool true] w fun e w' => ∃ s' : Sl, e = .returned (.tuple #[.agg (tCells server most s'), erV none]) ∧ RowOf w' (fun g => w.heap.size ≤ g) 105 3 s' (rowsE (l.take i ++ l.drop (i + 1))) ∧ Below w.heap.size w w' := by
  have HA := Lib.hid (fun W h => rat_calls W server most s P l k (hr.same (Below.size (B := w.heap.size) h) (fun g hg _ => Below.block h g hg)) hn)
  have HR := Lib.hid hr
  have HN := Lib.hid hn
  have hnl : s.n = l.length := by have := hr.1; simpa using this
  obtain ⟨A, n, c⟩ := s
  dsimp only at hnl
  subst hnl
  have hil : i < l.length := (List.getElem?_eq_some_iff.1 hx).1
  obtain ⟨r, ha⟩ : ∃ r, A = some ⟨r, 0, none⟩ := by
    rcases hr.2.2 with ⟨_, hnil⟩ | ⟨r, h1, _⟩
    · have := congrArg List.length hnil; simp at this; subst this; simp at hil
    · exact ⟨r, h1⟩
  subst ha
  obtain ⟨_, hrl, hrw⟩ := hr.at rfl
  have hcap : l.length ≤ c := by
    obtain ⟨cur, _, _, h3, _⟩ := hrw
    simpa using h3
  have HRW := Lib.hid hrw
  have HL := Lib.hid (laid3_made w server most (some ⟨r, 0, none⟩) l.length c)
  have HX := Lib.hid hx
  obtain ⟨i0, hi0, hz0, hz1, hz2⟩ := info_parts infoN
  have HI := Lib.hid hi0
  have HZ0 := Lib.hid hz0
  have HZ1 := Lib.hid hz1
  have HZ2 := Lib.hid hz2
  clear hi0 hz0 hz1 hz2
  rw [hk] at HA
  clear hr hn hk hrw
  simp only [tCells, Sl.val] at *
  go_enter Tryz.func32, Tryz.ntmps32
  go_wp2_with fail
  refine (HA.out _ HL.out.b).mono ?_
  rintro e w1 ⟨rfl, hb⟩
  have hl1 : Laid3 w server most (some ⟨r, 0, none⟩) l.length c w1 := HL.out.next hb
  have t0 := cell_at (j := 0) hl1.t rfl
  have t1 := cell_at (j := 1) hl1.t rfl
  have t2 := cell_at (j := 2) hl1.t rfl
  have r0 := cell_at (j := 0) hl1.r rfl
  have r1 := cell_at (j := 1) hl1.r rfl
  have r2 := cell_at (j := 2) hl1.r rfl
  have e0 := cell_at (j := 0) hl1.e rfl
  have e1 := cell_at (j := 1) hl1.e rfl
  have e2 := cell_at (j := 2) hl1.e rfl
  have rz : ∀ j, w1.frozen? ⟨w.heap.size + 1, j, none⟩ = false := fun j => frozen_at hl1.r
  have ez : ∀ j, w1.frozen? ⟨w.heap.size + 1 + 1, j, none⟩ = false := fun j => frozen_at hl1.e
  have tz : ∀ j, w1.frozen? ⟨w.heap.size, j, none⟩ = false := fun j => frozen_at hl1.t
  have c2 : w1.cell? ⟨r, i * 3 + 2, none⟩ = some (.string x.b) := (hl1.b.cell (p := ⟨r, i * 3 + 2, none⟩) hrl).trans (HRW.out.cell (c := x.cells.toList) (d := 2) (by simp [HX.out]) rfl)
  have HL1 := Lib.hid hl1
  clear hb hl1 HL HA hx
  go_wp2_with fail
  have b0 : (0 : Int) ≤ (i : Int) := by omega
  have b1 : (i : Int) ≤ (c : Int) := by omega
  have b2 : (0 : Int) ≤ (i : Int) + 1 := by omega
  have b3 : (i : Int) + 1 ≤ (l.length : Int) := by omega
  have b4 : (l.length : Int) ≤ (c : Int) := by omega
  have hnn := HN.out
  have bw : IntKind.i64.wrap ((i : Int) + 1) = (i : Int) + 1 := by rw [IntKind.wrap_i64]; omega
  have hw1 := blk_lt HL1.out.t
  have HO1 := Lib.hid (show ((w1.alloc (.cells #[] 105)).drew).ownsRow (w.heap.size + 1 + 1 + 1) 105 3 (.slice (some ⟨w1.heap.size, 0, none⟩) 0 0) 0 [] from ⟨rfl, .inr ⟨w1.heap.size, 0, #[], rfl, blk_lt HL1.out.e, heap_new_at w1 _ _ rfl, Nat.le_refl _, by decide, rfl, rfl⟩⟩)
  have HRW1 := Lib.hid (show Rw ((w1.alloc (.cells #[] 105)).drew) 105 r c 3 (rowsE l) from HRW.out.same ((heap_old_at w1 _ _ (by have := HL1.out.b.size; omega)).trans (HL1.out.b.block r hrl)))
  have HS1 := Lib.hid (show Src ((w1.alloc (.cells #[] 105)).drew) 3 (some ⟨r, 0, none⟩) i c ((rowsE l).take i) by
    have := HRW1.out.src (oneE l) (by omega) 0 i c (by simp; omega)
    simpa using this)
  have hb9 := blk_lt HL1.out.e
  have hS0 : ((w1.alloc (.cells #[] 105)).drew).cell? ⟨w.heap.size, 2, none⟩ = some (.slice (some ⟨r, 0, none⟩) l.length c) := (cell_old w1 _ _ hw1).trans t2
  have hS1 : ((w1.alloc (.cells #[] 105)).drew).frozen? ⟨w.heap.size, 2, none⟩ = false := (World.frozen?_alloc_old w1 _ ⟨w.heap.size, 2, none⟩ (by show w.heap.size ≠ w1.heap.size; omega)).trans (tz 2)
  have hz2 : ∀ j, w1.frozen? ⟨w.heap.size, j, none⟩ = false := fun j => frozen_at HL1.out.t
  go_cut [] (fun wx => ∃ s' : Sl, Laid3 w server most s'.a s'.n s'.c wx ∧ RowOf wx (fun g => w.heap.size + 1 + 1 < g) 105 3 s' (rowsE (l.take i ++ l.drop (i + 1))))
  case first =>
    go_region_law
      (first
        | (refine step_append_src _ (by rfl) _ _ _ (by rfl) (w.heap.size + 1 + 1 + 1) 105 i0 _ 3 48 Tryz.underlying32 HI.out HZ0.out HZ1.out HZ2.out rfl (by omega) _ 0 [] (by rfl) HO1.out _ i c ((rowsE l).take i) (by rfl) HS1.out (by clear bw; unfold maxLen; omega) (by clear bw; omega) (by have := blk_lt HL1.out.e; simp; omega) ?_; intro a1 cap1 w2 hown1 hgrow hat1
           simp only [Nat.zero_add, List.nil_append] at hown1 hat1 ⊢
           have hob9 : ∀ j, (Value.slice a1 i cap1).ownBlock = some j → w.heap.size + 1 + 1 < j := by
             intro j hj
             rcases hat1 with h | h
             · rw [h] at hj; simp only [Value.ownBlock] at hj; injection hj with hj; omega
             · rw [h] at hj; injection hj with hj; rw [← hj]; simp; omega
           have hob : (Value.slice a1 i cap1).ownBlock ≠ some w.heap.size := fun e => by have := hob9 _ e; omega
           have hw2 : w1.heap.size < w2.heap.size := by have := hgrow.size; simp at this; omega
           have hc2 := (hgrow.cell_far ⟨w.heap.size, 2, none⟩ (by clear bw; simp; omega) (by clear bw; simp only [Value.ownBlock]; intro he; injection he with he; omega)).trans hS0
           have hf2 := (hgrow.frozen_far ⟨w.heap.size, 2, none⟩ (by clear bw; simp; omega) (by clear bw; simp only [Value.ownBlock]; intro he; injection he with he; omega)).trans hS1
           have hrw2 : Rw w2 105 r c 3 (rowsE l) := HRW1.out.same (hgrow.block _ (by simp; omega) (by simp only [Value.ownBlock]; intro he; injection he with he; omega)))
        | (refine step_append_src _ (by rfl) _ _ _ (by rfl) (w.heap.size + 1 + 1 + 1) 105 i0 _ 3 48 Tryz.underlying32 HI.out HZ0.out HZ1.out HZ2.out rfl (by omega) _ _ _ (by rfl) hown1 _ _ _ ((rowsE l).drop (i + 1)) (by rfl) (src_rest hrw2 (i + 1) (by omega)) (by clear bw; unfold maxLen; omega) (by clear bw; omega) (by clear bw; omega) ?_; intro a2 cap2 w3 hown2 hgrow2 hat2
           have hc3 := (hgrow2.cell_far ⟨w.heap.size, 2, none⟩ (by clear bw; show w.heap.size < w2.heap.size; omega) (by intro he; exact hob he.symm)).trans hc2
           have hf3 := (hgrow2.frozen_far ⟨w.heap.size, 2, none⟩ (by clear bw; show w.heap.size < w2.heap.size; omega) (by intro he; exact hob he.symm)).trans hf2))
    all_goals
      have hl3 := (((HL1.out.alloc3 (.cells #[] 105)).drew.grown hgrow (fun j hj => by simp only [Value.ownBlock] at hj; injection hj with hj; omega)).grown hgrow2 hob9).put a2 (i + (l.length - (i + 1))) cap2
      obtain ⟨s', hs', hro⟩ := RowOf.of_own (l := rowsE (l.take i ++ l.drop (i + 1))) (by rw [flat_two]; exact hown2) (fun y hy => by obtain ⟨z, _, rfl⟩ := List.mem_map.1 hy; rfl) (by decide) (by simp; omega)
      obtain ⟨sa, sn, sc⟩ := s'
      simp only [Sl.val] at hs'
      injection hs' with hs1 hs2 hs3
      subst hs1 hs2 hs3
      have HL3 := Lib.hid hl3
      have HRO := Lib.hid hro
      clear hl3 hro
      generalize (if c = i + 1 then some (⟨r, 0, none⟩ : Addr) else some ⟨r, (i + 1) * 3, none⟩) = aw
      go_wp2_with fail
      go_meet
      exact ⟨⟨a2, _, cap2⟩, HL3.out, (HRO.out.same (by simp [World.setCell]) (fun g hg hP => Below.heap_setCell _ _ _ _ (by show g ≠ w.heap.size; omega))).mono (fun g _ h => by omega)⟩
  case rest =>
    clear t0 t1 t2 r0 r1 r2 e0 e1 e2 rz ez tz c2 HO1 HRW1 HS1 hS0 hS1 hz2
    obtain ⟨⟨sa, sn, sc⟩, hl, hro⟩ := hcut
    have t0 := cell_at (j := 0) hl.t rfl
    have t1 := cell_at (j := 1) hl.t rfl
    have t2 := cell_at (j := 2) hl.t rfl
    have r0 := cell_at (j := 0) hl.r rfl
    have r1 := cell_at (j := 1) hl.r rfl
    have r2 := cell_at (j := 2) hl.r rfl
    have e0 := cell_at (j := 0) hl.e rfl
    have e1 := cell_at (j := 1) hl.e rfl
    have e2 := cell_at (j := 2) hl.e rfl
    have rz : ∀ j, wc.frozen? ⟨w.heap.size + 1, j, none⟩ = false := fun j => frozen_at hl.r
    have ez : ∀ j, wc.frozen? ⟨w.heap.size + 1 + 1, j, none⟩ = false := fun j => frozen_at hl.e
    have tz : ∀ j, wc.frozen? ⟨w.heap.size, j, none⟩ = false := fun j => frozen_at hl.t
    have HL4 := Lib.hid hl
    have HRO := Lib.hid hro
    clear hl hro
    go_wp2_with fail
    go_region_law (go_simp; go_at_call 31; refine (rnone_calls _).mono ?_; rintro e wv ⟨rfl, hb⟩
                   have hl : Laid3 w server most sa sn sc wv := by first | exact HL4.out.drew.next hb | exact HL4.out.next hb
                   have hrv : RowOf wv (fun g => w.heap.size + 1 + 1 < g) 105 3 ⟨sa, sn, sc⟩ (rowsE (l.take i ++ l.drop (i + 1))) := HRO.out.same hb.size (fun g hg _ => hb.block g hg)
                   have t0 := cell_at (j := 0) hl.t rfl
                   have t1 := cell_at (j := 1) hl.t rfl
                   have t2 := cell_at (j := 2) hl.t rfl
                   have r0 := cell_at (j := 0) hl.r rfl
                   have r1 := cell_at (j := 1) hl.r rfl
                   have r2 := cell_at (j := 2) hl.r rfl
                   have e0 := cell_at (j := 0) hl.e rfl
                   have e1 := cell_at (j := 1) hl.e rfl
                   have e2 := cell_at (j := 2) hl.e rfl
                   have rz : ∀ j, wv.frozen? ⟨w.heap.size + 1, j, none⟩ = false := fun j => frozen_at hl.r
                   have ez : ∀ j, wv.frozen? ⟨w.heap.size + 1 + 1, j, none⟩ = false := fun j => frozen_at hl.e
                   have tz : ∀ j, wv.frozen? ⟨w.heap.size, j, none⟩ = false := fun j => frozen_at hl.t
                   have HLV := Lib.hid hl
                   have HRV := Lib.hid hrv
                   clear hl hb hrv
                   simp only [erV, eCells])
    all_goals (go_wp2_with fail)
    all_goals first
    | (refine bodyPost_ret (res_TE rfl _ _ (w.heap.size + 1) (w.heap.size + 1 + 1) #[.string server, .int .i64 most, .slice sa sn sc] #[.int .i64 0, .int .i64 (-1), .string ⟨#[]⟩] rfl (HLV.out.fin _ _ _ _ _ _).1 rfl rfl (HLV.out.fin _ _ _ _ _ _).2.1 rfl) rfl ?_
       exact ⟨⟨sa, sn, sc⟩, rfl, (HRV.out.same (by simp [World.setCell]) (fun g hg hP => (row3_other (by omega)).trans (row3_other (by omega)))).mono (fun g _ h => by omega), (HLV.out.fin _ _ _ _ _ _).2.2⟩)
    | (refine bodyPost_ret (res_TE rfl _ _ (w.heap.size + 1) (w.heap.size + 1 + 1) #[.string server, .int .i64 most, .slice sa sn sc] #[.int .i64 0, .int .i64 (-1), .string ⟨#[]⟩] rfl (HLV.out.fin' _ _ _ _ _ _).1 rfl rfl (HLV.out.fin' _ _ _ _ _ _).2.1 rfl) rfl ?_
       exact ⟨⟨sa, sn, sc⟩, rfl, (HRV.out.same (by simp [World.setCell]) (fun g hg hP => (row3_other (by omega)).trans (row3_other (by omega)))).mono (fun g _ h => by omega), (HLV.out.fin' _ _ _ _ _ _).2.2⟩)
end Go.Proofs.YtgnoaeldmpbjmaaGreatDoor
/- A table and the document's: what an act does to both. -/
set_option linter.unusedVariables false
namespace Go.Proofs.YtgnoaeldmpbjmaaGreatDoor
open Go.RowKit Go.Maps Go.Sort

theorem key_eq {a b : ByteArray} (h : a.data.toList = b.data.toList) : a = b := ba_eq h
theorem idx_get (l : List En) (k : ByteArray) : (getE l k = none ∧ idxE l k = -1) ∨ ∃ (i : Nat) (x : En) (s t : List En), l = s ++ x :: t ∧ s.length = i ∧ l[i]? = some x ∧ getE l k = some x ∧ idxE l k = i ∧ x.a = k ∧ ∀ y ∈ s, aliasIs k y = false := by
  cases hg : getE l k with
  | none =>
    refine .inl ⟨rfl, idx_none fun y hy => ?_⟩
    have := List.find?_eq_none.1 hg y hy
    simpa using this
  | some x =>
    obtain ⟨hp, s, t, rfl, hs⟩ := List.find?_eq_some_iff_append.1 hg
    have hno : ∀ y ∈ s, aliasIs k y = false := fun y hy => by simpa using hs y hy
    have hi : (s ++ x :: t)[s.length]? = some x := by simp
    refine .inr ⟨s.length, x, s, t, rfl, rfl, hi, rfl, idx_hit hi hp (by simpa using hno), ?_, hno⟩
    unfold aliasIs at hp
    exact key_eq (by simpa using hp)
theorem before_irr (a : List UInt8) : bytesBefore a a = false := by rw [bytes_lt]; exact lt_irr a
theorem before_asym {a b : List UInt8} (h : bytesBefore a b = true) : bytesBefore b a = false := by
  rw [bytes_lt] at h ⊢
  cases hc : ltStr b a with
  | false => rfl
  | true =>
    have := swo_ltStr.trans _ _ _ h hc
    rw [lt_irr] at this
    cases this
theorem before_trans {a b c : List UInt8} (h : bytesBefore a b = true) (k : bytesBefore b c = true) : bytesBefore a c = true := by
  rw [bytes_lt] at h k ⊢
  exact swo_ltStr.trans _ _ _ h k
theorem before_total {a b : List UInt8} (h : bytesBefore a b = false) (hne : b ≠ a) : bytesBefore b a = true := by
  rw [bytes_lt] at h ⊢
  cases hc : ltStr b a with
  | true => rfl
  | false =>
    refine absurd ?_ hne
    unfold ltStr at h hc
    simp only [decide_eq_false_iff_not] at h hc
    exact List.le_antisymm (by simpa using h) (by simpa using hc)
theorem rise_del {l : List En} (k : ByteArray) (h : RiseE l) : RiseE (delE k l) := List.Pairwise.filter _ h
theorem mem_ins {x y : En} : ∀ {l : List En}, y ∈ insE x l → y = x ∨ y ∈ l
  | [], h => by simp [insE] at h; exact .inl h
  | z :: r, h => by
    unfold insE at h
    split at h
    · rcases List.mem_cons.1 h with h | h
      · exact .inl h
      · exact .inr h
    · rcases List.mem_cons.1 h with h | h
      · exact .inr (by rw [h]; simp)
      · rcases mem_ins h with h | h
        · exact .inl h
        · exact .inr (by simp [h])
theorem get_none_ne {l : List En} {k : ByteArray} (h : getE l k = none) {y : En} (hy : y ∈ l) : y.key ≠ k.data.toList := fun e => by
  have h2 : aliasIs k y = true := beq_iff_eq.2 e
  exact List.find?_eq_none.1 h y hy h2
theorem rise_ins (x : En) : ∀ {l : List En}, RiseE l → getE l x.a = none → RiseE (insE x l)
  | [], _, _ => by simp [insE, RiseE]
  | z :: r, h, hg => by
    have hz := List.pairwise_cons.1 h
    have hne := get_none_ne hg (y := z) (by simp)
    have hgr : getE r x.a = none := List.find?_eq_none.2 fun y hy => List.find?_eq_none.1 hg y (by simp [hy])
    unfold insE
    split
    · rename_i hb
      refine List.pairwise_cons.2 ⟨fun y hy => ?_, h⟩
      rcases List.mem_cons.1 hy with rfl | hy
      · exact hb
      · exact before_trans hb (hz.1 y hy)
    · rename_i hb
      have hb' : bytesBefore z.key x.key = true := before_total (Bool.eq_false_iff.2 hb) hne
      refine List.pairwise_cons.2 ⟨fun y hy => ?_, rise_ins x hz.2 hgr⟩
      rcases mem_ins hy with rfl | hy
      · exact hb'
      · exact hz.1 y hy
theorem insR_is (x : En) : ∀ {l : List En}, RiseE l → getE l x.a = none → insR x l = insE x l
  | [], _, _ => rfl
  | z :: r, h, hg => by
    have hz := List.pairwise_cons.1 h
    have hne := get_none_ne hg (y := z) (by simp)
    have hgr : getE r x.a = none := List.find?_eq_none.2 fun y hy => List.find?_eq_none.1 hg y (by simp [hy])
    unfold insE
    split
    · rename_i hb
      have := before_asym hb
      unfold insR
      simp only [List.takeWhile_cons, List.dropWhile_cons]
      have e : bytesBefore z.key x.key = false := this
      simp [e]
    · rename_i hb
      have hb' : bytesBefore z.key x.key = true := before_total (Bool.eq_false_iff.2 hb) hne
      rw [← insR_is x hz.2 hgr]
      unfold insR
      rw [List.takeWhile_cons, List.dropWhile_cons]
      simp [hb']
theorem insE_length (x : En) : ∀ l : List En, (insE x l).length = l.length + 1
  | [] => rfl
  | z :: r => by
    unfold insE
    split
    · simp
    · simp [insE_length x r]
theorem del_at {s t : List En} {x : En} (h : RiseE (s ++ x :: t)) : delE x.a (s ++ x :: t) = (s ++ x :: t).take s.length ++ (s ++ x :: t).drop (s.length + 1) := by
  have hnd := h.nodup
  rw [List.map_append, List.map_cons, List.nodup_append] at hnd
  obtain ⟨_, h2, h3⟩ := hnd
  have h4 := List.nodup_cons.1 h2
  have e1 : ∀ y ∈ s, (!aliasIs x.a y) = true := fun y hy => by
    have := h3 y.key (List.mem_map.2 ⟨y, hy, rfl⟩) x.key (by simp)
    have hf : aliasIs x.a y = false := beq_eq_false_iff_ne.2 this
    rw [hf]; rfl
  have e2 : ∀ y ∈ t, (!aliasIs x.a y) = true := fun y hy => by
    have : y.key ≠ x.key := fun e => h4.1 (List.mem_map.2 ⟨y, hy, e⟩)
    have hf : aliasIs x.a y = false := beq_eq_false_iff_ne.2 this
    rw [hf]; rfl
  have e3 : (!aliasIs x.a x) = false := by simp [aliasIs]
  unfold delE
  rw [List.filter_append, List.filter_cons, e3, List.filter_eq_self.2 e1]
  simp only [Bool.false_eq_true, if_false]
  rw [List.filter_eq_self.2 e2]
  simp [List.drop_append]

/-- The list behind a taking; behind a giving; what is wrong with a giving. -/
def dropL (l : List En) (k by_ : ByteArray) (may : Bool) : List En := if dropErr l k by_ may = none then delE k l else l
def addErr (server : ByteArray) (most : Int) (l : List En) (k room by_ : ByteArray) : Er :=
  if isB 3 k.data.toList = false then some ([sAlias], 7) else if isB 1 room.data.toList = false then some ([sRoom], 7) else if isB 2 by_.data.toList = false then some ([sUser], 7)
  else if ((ofL (ofB k.data.toList)).toList == server.toList) = false then some ([sAlias], 22) else if getE l k ≠ none then some ([], 15) else if most ≤ l.length then some ([], 14) else none
def addL (server : ByteArray) (most : Int) (l : List En) (k room by_ : ByteArray) : List En := if addErr server most l k room by_ = none then insE ⟨k, room, by_⟩ l else l
theorem rise_drop {l : List En} (h : RiseE l) (k by_ : ByteArray) (may : Bool) : RiseE (dropL l k by_ may) := by
  unfold dropL
  split
  · exact rise_del k h
  · exact h
theorem addErr_none {server : ByteArray} {most : Int} {l : List En} {k room by_ : ByteArray} (h : addErr server most l k room by_ = none) :
    isB 3 k.data.toList = true ∧ isB 1 room.data.toList = true ∧ isB 2 by_.data.toList = true ∧ ((ofL (ofB k.data.toList)).toList == server.toList) = true ∧ getE l k = none ∧ (l.length : Int) < most := by
  unfold addErr at h
  split at h
  · cases h
  split at h
  · cases h
  split at h
  · cases h
  split at h
  · cases h
  split at h
  · cases h
  split at h
  · cases h
  rename_i h1 h2 h3 h4 h5 h6
  exact ⟨by simpa using h1, by simpa using h2, by simpa using h3, by simpa using h4, by simpa using h5, by omega⟩
theorem rise_add {server : ByteArray} {most : Int} {l : List En} (h : RiseE l) (k room by_ : ByteArray) : RiseE (addL server most l k room by_) := by
  unfold addL
  split
  · rename_i he
    exact rise_ins _ h (addErr_none he).2.2.2.2.1
  · exact h
theorem dropL_length (l : List En) (k by_ : ByteArray) (may : Bool) : (dropL l k by_ may).length ≤ l.length := by
  unfold dropL
  split
  · exact List.length_filter_le _ _
  · exact Nat.le_refl _
theorem addL_length (server : ByteArray) (most : Int) (l : List En) (k room by_ : ByteArray) : (addL server most l k room by_).length ≤ l.length + 1 := by
  unfold addL
  split
  · rw [insE_length]; omega
  · omega

theorem errV_nil (w : World) (P : Nat → Prop) : ErrV w P .nilIface none := rfl
theorem tdrop_calls (w : World) (g b : Nat) (server : ByteArray) (most : Int) (l : List En) (k by_ : ByteArray) (may : Bool) (ht : Tab w g b server most l) (hk : k.size ≤ maxLen) :
    Calls Tryz.prog 33 #[.pointer (some ⟨g, 0, none⟩), .string k, .string by_, .bool may] w fun e w' => ∃ v, e = .returned v ∧ ErrV w' (fun i => w.heap.size ≤ i) v (dropErr l k by_ may) ∧ Tab w' g b server most (dropL l k by_ may) ∧ Fr (fun i => i = b) w w' := by
  cases hg : getE l k with
  | none =>
    have he : dropErr l k by_ may = some ([], 16) := by simp [dropErr, hg]
    rw [dropL, he]
    exact (drop_none w g b server most l k by_ may ht hk hg).mono fun e w' h => ⟨_, h.1, ErrV.code _ _ 16, h.2.1, h.2.2⟩
  | some x =>
    cases hb : (x.b.toList == by_.toList) with
    | true =>
      have he : dropErr l k by_ may = none := by simp [dropErr, hg, sameB, hb]
      rw [dropL, he]
      exact (drop_same w g b server most l k by_ may ht hk x hg hb).mono fun e w' h => ⟨_, h.1, errV_nil _ _, h.2.1, h.2.2⟩
    | false =>
      cases may with
      | true =>
        have he : dropErr l k by_ true = none := by simp [dropErr, hg]
        rw [dropL, he]
        exact (drop_may w g b server most l k by_ ht hk x hg hb).mono fun e w' h => ⟨_, h.1, errV_nil _ _, h.2.1, h.2.2⟩
      | false =>
        have he : dropErr l k by_ false = some ([], 22) := by simp [dropErr, hg, sameB, hb]
        rw [dropL, he]
        exact (drop_denied w g b server most l k by_ ht hk x hg hb).mono fun e w' h => ⟨_, h.1, ErrV.code _ _ 22, h.2.1, h.2.2⟩
theorem rdrop_calls (w : World) (server : ByteArray) (most : Int) (s : Sl) (P : Nat → Prop) (l : List En) (k by_ : ByteArray) (may : Bool) (hr : RowOf w P 105 3 s (rowsE l)) (hn : l.length ≤ 1000000) (hl : RiseE l) :
    Calls Tryz.prog 32 #[.agg (tCells server most s), .string k, .string by_, .bool may] w fun e w' => ∃ s' : Sl, e = .returned (.tuple #[.agg (tCells server most s'), erV (dropErr l k by_ may)]) ∧ RowOf w' (fun g => P g ∨ w.heap.size ≤ g) 105 3 s' (rowsE (dropL l k by_ may)) ∧ Below w.heap.size w w' := by
  have keep : ∀ w', Below w.heap.size w w' → RowOf w' (fun g => P g ∨ w.heap.size ≤ g) 105 3 s (rowsE l) := fun w' h => (hr.same h.size (fun g hg _ => h.block g hg)).mono fun g _ h => .inl h
  rcases idx_get l k with ⟨hg, hi⟩ | ⟨i, x, a, t, rfl, hi, hx, hg, hix, hxa, hno⟩
  · have he : dropErr l k by_ may = some ([], 16) := by simp [dropErr, hg]
    rw [dropL, he]
    exact (rdrop_none w server most s P l k by_ may hr hn hi).mono fun e w' h => ⟨s, h.1, keep w' h.2, h.2⟩
  · subst hi
    cases hb : (x.b.toList == by_.toList) with
    | true =>
      have he : dropErr (a ++ x :: t) k by_ may = none := by simp [dropErr, hg, sameB, hb]
      rw [dropL, he]
      simp only [if_true]
      subst hxa
      rw [del_at hl]
      exact (rdrop_ok w server most s P _ x.a by_ a.length x hr hn hix hx hb may).mono fun e w' ⟨s', h1, h2, h3⟩ => ⟨s', h1, h2.mono fun g _ h => .inr h, h3⟩
    | false =>
      cases may with
      | true =>
        have he : dropErr (a ++ x :: t) k by_ true = none := by simp [dropErr, hg]
        rw [dropL, he]
        simp only [if_true]
        subst hxa
        rw [del_at hl]
        exact (rdrop_may w server most s P _ x.a by_ a.length x hr hn hix hx hb).mono fun e w' ⟨s', h1, h2, h3⟩ => ⟨s', h1, h2.mono fun g _ h => .inr h, h3⟩
      | false =>
        have he : dropErr (a ++ x :: t) k by_ false = some ([], 22) := by simp [dropErr, hg, sameB, hb]
        rw [dropL, he]
        exact (rdrop_denied w server most s P _ k by_ a.length x hr hn hix hx hb).mono fun e w' h => ⟨s, h.1, keep w' h.2, h.2⟩
end Go.Proofs.YtgnoaeldmpbjmaaGreatDoor
/- A table and the document's: an alias is given, in one. -/
set_option linter.unusedVariables false
namespace Go.Proofs.YtgnoaeldmpbjmaaGreatDoor
open Go.RowKit Go.Maps Go.Sort

theorem tadd_calls (w : World) (g b : Nat) (server : ByteArray) (most : Int) (l : List En) (k room by_ : ByteArray) (ht : Tab w g b server most l) (hk : k.size < 4294967281) (hr : room.size < 4294967281) (hb : by_.size < 4294967281) (hm : Mx w) (hn : l.length < maxLen) :
    Calls Tryz.prog 24 #[.pointer (some ⟨g, 0, none⟩), .string k, .string room, .string by_] w fun e w' => ∃ v, e = .returned v ∧ ErrV w' (fun i => w.heap.size ≤ i) v (addErr server most l k room by_) ∧ Tab w' g b server most (addL server most l k room by_) ∧ Fr (fun i => i = b) w w' := by
  cases h1 : isB 3 k.data.toList with
  | false =>
    have he : addErr server most l k room by_ = some ([sAlias], 7) := by simp [addErr, h1]
    rw [addL, he]
    exact (add_alias w g b server most l k room by_ ht hk hr hb hm h1).mono fun e w' ⟨v, h, h2, h3, h4⟩ => ⟨v, h, h2, h3, Fr.of_below h4⟩
  | true =>
  cases h2 : isB 1 room.data.toList with
  | false =>
    have he : addErr server most l k room by_ = some ([sRoom], 7) := by simp [addErr, h1, h2]
    rw [addL, he]
    exact (add_room w g b server most l k room by_ ht hk hr hb hm h1 h2).mono fun e w' ⟨v, h, h2, h3, h4⟩ => ⟨v, h, h2, h3, Fr.of_below h4⟩
  | true =>
  cases h3 : isB 2 by_.data.toList with
  | false =>
    have he : addErr server most l k room by_ = some ([sUser], 7) := by simp [addErr, h1, h2, h3]
    rw [addL, he]
    exact (add_user w g b server most l k room by_ ht hk hr hb hm h1 h2 h3).mono fun e w' ⟨v, h, h2, h3, h4⟩ => ⟨v, h, h2, h3, Fr.of_below h4⟩
  | true =>
  cases h4 : ((ofL (ofB k.data.toList)).toList == server.toList) with
  | false =>
    have he : addErr server most l k room by_ = some ([sAlias], 22) := by simp only [addErr, h1, h2, h3, h4]; simp
    rw [addL, he]
    exact (add_server w g b server most l k room by_ ht hk hr hb hm h1 h2 h3 h4).mono fun e w' ⟨v, h, h2, h3, h4⟩ => ⟨v, h, h2, h3, Fr.of_below h4⟩
  | true =>
  cases h5 : getE l k with
  | some x =>
    have he : addErr server most l k room by_ = some ([], 15) := by simp only [addErr, h1, h2, h3, h4, h5]; simp
    rw [addL, he]
    exact (add_there w g b server most l k room by_ ht hk hr hb hm h1 h2 h3 h4 x h5).mono fun e w' ⟨h, h3, h4⟩ => ⟨_, h, ErrV.code _ _ 15, h3, Fr.of_below h4⟩
  | none =>
  by_cases h6 : most ≤ l.length
  · have he : addErr server most l k room by_ = some ([], 14) := by simp only [addErr, h1, h2, h3, h4, h5]; simp [h6]
    rw [addL, he]
    exact (add_full w g b server most l k room by_ ht hk hr hb hm h1 h2 h3 h4 h5 h6).mono fun e w' ⟨h, h3, h4⟩ => ⟨_, h, ErrV.code _ _ 14, h3, Fr.of_below h4⟩
  · have he : addErr server most l k room by_ = none := by simp only [addErr, h1, h2, h3, h4, h5]; simp [h6]
    rw [addL, he]
    exact (add_ok w g b server most l k room by_ ht hk hr hb hm h1 h2 h3 h4 h5 (by omega) hn).mono fun e w' ⟨h, h3, h4⟩ => ⟨_, h, errV_nil _ _, h3, h4⟩
theorem radd_calls (w : World) (server : ByteArray) (most : Int) (s : Sl) (P : Nat → Prop) (l : List En) (k room by_ : ByteArray) (hk : k.size < 4294967281) (hro : room.size < 4294967281) (hby : by_.size < 4294967281)
    (hr : RowOf w P 105 3 s (rowsE l)) (hn : l.length < 1000000) (hl : RiseE l) :
    Calls Tryz.prog 34 #[.agg (tCells server most s), .string k, .string room, .string by_] w fun e w' => ∃ s' : Sl, e = .returned (.tuple #[.agg (tCells server most s'), erV (addErr server most l k room by_)]) ∧ RowOf w' (fun g => P g ∨ w.heap.size ≤ g) 105 3 s' (rowsE (addL server most l k room by_)) ∧ Below w.heap.size w w' := by
  have keep : ∀ w', Below w.heap.size w w' → RowOf w' (fun g => P g ∨ w.heap.size ≤ g) 105 3 s (rowsE l) := fun w' h => (hr.same h.size (fun g hg _ => h.block g hg)).mono fun g _ h => .inl h
  have a1 : k.size ≤ 9223372036854775807 := by omega
  have a2 : room.size ≤ 9223372036854775807 := by omega
  have a3 : by_.size ≤ 9223372036854775807 := by omega
  cases h1 : isB 3 k.data.toList with
  | false =>
    have he : addErr server most l k room by_ = some ([sAlias], 7) := by simp [addErr, h1]
    rw [addL, he]
    exact (radd_alias w server most s k room by_ a1 a2 a3 h1).mono fun e w' h => ⟨s, h.1, keep w' h.2, h.2⟩
  | true =>
  cases h2 : isB 1 room.data.toList with
  | false =>
    have he : addErr server most l k room by_ = some ([sRoom], 7) := by simp [addErr, h1, h2]
    rw [addL, he]
    exact (radd_room w server most s k room by_ a1 a2 a3 h1 h2).mono fun e w' h => ⟨s, h.1, keep w' h.2, h.2⟩
  | true =>
  cases h3 : isB 2 by_.data.toList with
  | false =>
    have he : addErr server most l k room by_ = some ([sUser], 7) := by simp [addErr, h1, h2, h3]
    rw [addL, he]
    exact (radd_user w server most s k room by_ a1 a2 a3 h1 h2 h3).mono fun e w' h => ⟨s, h.1, keep w' h.2, h.2⟩
  | true =>
  cases h4 : ((ofL (ofB k.data.toList)).toList == server.toList) with
  | false =>
    have he : addErr server most l k room by_ = some ([sAlias], 22) := by simp only [addErr, h1, h2, h3, h4]; simp
    rw [addL, he]
    exact (radd_server w server most s k room by_ a1 a2 a3 h1 h2 h3 h4).mono fun e w' h => ⟨s, h.1, keep w' h.2, h.2⟩
  | true =>
  rcases idx_get l k with ⟨h5, hi⟩ | ⟨i, x, _, _, _, _, _, h5, hi, _, _⟩
  · by_cases h6 : most ≤ l.length
    · have he : addErr server most l k room by_ = some ([], 14) := by simp only [addErr, h1, h2, h3, h4, h5]; simp [h6]
      rw [addL, he]
      exact (radd_full w server most s k room by_ a1 a2 a3 h1 h2 h3 h4 P l hr (by omega) hi h6).mono fun e w' h => ⟨s, h.1, keep w' h.2, h.2⟩
    · have he : addErr server most l k room by_ = none := by simp only [addErr, h1, h2, h3, h4, h5]; simp [h6]
      rw [addL, he]
      simp only [if_true]
      rw [← insR_is ⟨k, room, by_⟩ hl h5]
      exact (radd_ok w server most s k room by_ a1 a2 a3 h1 h2 h3 h4 P l hr hn hi (by omega)).mono fun e w' ⟨s', h1, h2, h3⟩ => ⟨s', h1, h2.mono fun g _ h => .inr h, h3⟩
  · have he : addErr server most l k room by_ = some ([], 15) := by simp only [addErr, h1, h2, h3, h4, h5]; simp
    rw [addL, he]
    exact (radd_there w server most s k room by_ a1 a2 a3 h1 h2 h3 h4 P l hr (by omega) i hi).mono fun e w' h => ⟨s, h.1, keep w' h.2, h.2⟩
end Go.Proofs.YtgnoaeldmpbjmaaGreatDoor
