/- The document's table: an alias is given. -/
import Derived.Test.YtgnoaeldmpbjmaaGreatDoorRu
import Derived.Deep.DeepCutAuto
import Derived.Deep.CutBlock
import Derived.Test.YtgnoaeldmpbjmaaGreatDoorWt
set_option linter.unusedVariables false
set_option linter.unusedSimpArgs false
namespace Go.Proofs.YtgnoaeldmpbjmaaGreatDoor
open Go.RowKit Go.Maps Go.Sort

/-- The document's place: ahead of what isn't smaller. -/
def insR (x : En) (l : List En) : List En := l.takeWhile (fun y => bytesBefore y.key x.key) ++ x :: l.dropWhile (fun y => bytesBefore y.key x.key)
theorem less_before (a b : ByteArray) : Op.bytesLess a.toList b.toList = bytesBefore a.data.toList b.data.toList := by
  rw [bytesLess_eq, bytes_lt, ByteArray.toList_eq, ByteArray.toList_eq]
  rfl
theorem insR_length (x : En) (l : List En) : (insR x l).length = l.length + 1 := by
  have := congrArg List.length (List.takeWhile_append_dropWhile (p := fun y => bytesBefore y.key x.key) (l := l))
  unfold insR
  simp only [List.length_append, List.length_cons] at this ⊢
  omega
theorem insR_flat (x : En) {l : List En} {i : Nat} (h : l.takeWhile (fun y => bytesBefore y.key x.key) = l.take i ∧ l.dropWhile (fun y => bytesBefore y.key x.key) = l.drop i) :
    (rowsE (insR x l)).flatten = ((rowsE l).take i).flatten ++ [[.string x.a, .string x.r, .string x.b]].flatten ++ ((rowsE l).drop i).flatten := by
  unfold insR
  rw [h.1, h.2]
  simp [rowsE, List.map_take, List.map_drop]
  rfl
theorem src_one {w : World} {b t : Nat} {x y z : Value} (h : w.heap[b]? = some (.cells #[x, y, z] t (0, 0))) (h1 : x.oneCell' = true) (h2 : y.oneCell' = true) (h3 : z.oneCell' = true) : Src w 3 (some ⟨b, 0, none⟩) 1 1 [[x, y, z]] :=
  ⟨rfl, by simp, by simp [h1, h2, h3], .inr ⟨_, rfl, fun j u hj => by
    have : (⟨b, 0, none⟩ : Addr).add j = ⟨b, j, none⟩ := by unfold Addr.add; split <;> simp_all
    rw [this]
    exact cell_at h (by simpa using hj)⟩⟩
theorem place_take {p : En → Bool} : ∀ {l : List En} {i : Nat}, i ≤ l.length → (∀ y ∈ l.take i, p y = true) → (∀ y, l[i]? = some y → p y = false) → l.takeWhile p = l.take i ∧ l.dropWhile p = l.drop i
  | [], i, h, _, _ => by simp at h; subst h; simp
  | y :: l, 0, _, _, h => by have := h y rfl; simp [List.takeWhile_cons, List.dropWhile_cons, this]
  | y :: l, i + 1, hi, h1, h2 => by
    have hy : p y = true := h1 y (by simp)
    obtain ⟨e1, e2⟩ := place_take (p := p) (l := l) (i := i) (by simpa using hi) (fun z hz => h1 z (by simp [hz])) (fun z hz => h2 z (by simpa using hz))
    simp [List.takeWhile_cons, List.dropWhile_cons, hy, e1, e2]
set_option maxRecDepth 100000 in
set_option maxHeartbeats 4000000 in
theorem radd_ok (w : World) (server : ByteArray) (most : Int) (s : Sl) (k room by_ : ByteArray) (hk : k.size ≤ 9223372036854775807) (hro : room.size ≤ 9223372036854775807) (hby : by_.size ≤ 9223372036854775807) (g0 : isB 3 k.data.toList = true) (g1 : isB 1 room.data.toList = true) (g2 : isB 2 by_.data.toList = true) (h4 : ((ofL (ofB k.data.toList)).toList == server.toList) = true) (P : Nat → Prop) (l : List En) (hr : RowOf w P 105 3 s (rowsE l)) (hn : l.length < 1000000) (hi : idxE l k = -1) (hf : (l.length : Int) < most) :
    Calls Tryz.prog 34 #[.agg (tCells server most s), .string k, .string room, .string by_] w fun e w' => ∃ s' : Sl, e = .returned (.tuple #[.agg (tCells server most s'), erV none]) ∧ RowOf w' (fun g => w.heap.size ≤ g) 105 3 s' (rowsE (insR ⟨k, room, by_⟩ l)) ∧ Below w.heap.size w w' := by
  have HI0 := Lib.hid (fun W => show Calls Tryz.prog 57 #[.int .i64 3, .string k] W fun e w' => e = .returned (.bool true) ∧ Below W.heap.size W w' from g0 ▸ ris_calls W 3 k (by omega) (by omega) hk)
  have HI1 := Lib.hid (fun W => show Calls Tryz.prog 57 #[.int .i64 1, .string room] W fun e w' => e = .returned (.bool true) ∧ Below W.heap.size W w' from g1 ▸ ris_calls W 1 room (by omega) (by omega) hro)
  have HI2 := Lib.hid (fun W => show Calls Tryz.prog 57 #[.int .i64 2, .string by_] W fun e w' => e = .returned (.bool true) ∧ Below W.heap.size W w' from g2 ▸ ris_calls W 2 by_ (by omega) (by omega) hby)
  have HO := Lib.hid (fun W => rof4_calls W k hk)
  have HAT := Lib.hid (fun W h => rat_calls W server most s P l k (hr.same (Below.size (B := w.heap.size) h) (fun g hg _ => Below.block h g hg)) (by omega))
  have hnl : s.n = l.length := by have := hr.1; simpa using this
  obtain ⟨A, n, c0⟩ := s
  dsimp only at hnl
  subst hnl
  have HROW := Lib.hid hr
  have HN := Lib.hid hn
  rw [hi] at HAT
  clear g2 hr hn hi
  have HA := Lib.hid (add0_made w server most A l.length c0 k room by_)
  clear hk hro hby g0 g1
  simp only [tCells, Sl.val] at *
  go_enter Tryz.func34, Tryz.ntmps34
  go_wp2_with fail
  generalize (((((w.alloc (.cells #[.string server, .int .i64 most, .slice A l.length c0] 34)).alloc (.cells TZ 34)).alloc (.cells EZ 36)).alloc (.cells #[.string sAlias, .string sRoom, .string sUser] 9)).alloc (.cells #[.string k, .string room, .string by_] 9)).alloc (.cells #[.int .i64 3, .int .i64 1, .int .i64 2] 3) = w0 at *
  refine wp_loop_rounds 4 ?_
  rw [rounds_succ]
  go_wp2_with fail
  have nmj : w0.cell? ⟨w.heap.size + 1 + 1 + 1, 0, none⟩ = some (.string sAlias) := cell_at HA.out.nm rfl
  have txj : w0.cell? ⟨w.heap.size + 1 + 1 + 1 + 1, 0, none⟩ = some (.string k) := cell_at HA.out.tx rfl
  have kdj : w0.cell? ⟨w.heap.size + 1 + 1 + 1 + 1 + 1, 0, none⟩ = some (.int .i64 3) := cell_at HA.out.kd rfl
  go_cut [35] (fun c wx => c = .bool false ∧ Add0 w server most A l.length c0 k room by_ wx)
  case first =>
    go_region_law (go_simp; go_at_call 57; refine (HI0.out _).mono ?_; rintro e wv ⟨rfl, hb⟩
                   have HLV := Lib.hid (show Add0 w server most A l.length c0 k room by_ wv by first | exact HA.out.drew.next hb | exact HA.out.next hb)
                   clear hb)
    all_goals
      go_wp2_with fail
      go_meet
      exact ⟨rfl, HLV.out⟩
  obtain ⟨hc0, hg0⟩ := hcut
  subst hc0
  have HG0 := Lib.hid hg0
  clear hg0 nmj txj kdj
  rename World => wg0
  go_wp2_with fail
  rw [rounds_succ]
  go_wp2_with fail
  have nmj : wg0.cell? ⟨w.heap.size + 1 + 1 + 1, 1, none⟩ = some (.string sRoom) := cell_at HG0.out.nm rfl
  have txj : wg0.cell? ⟨w.heap.size + 1 + 1 + 1 + 1, 1, none⟩ = some (.string room) := cell_at HG0.out.tx rfl
  have kdj : wg0.cell? ⟨w.heap.size + 1 + 1 + 1 + 1 + 1, 1, none⟩ = some (.int .i64 1) := cell_at HG0.out.kd rfl
  go_cut [35] (fun c wx => c = .bool false ∧ Add0 w server most A l.length c0 k room by_ wx)
  case first =>
    go_region_law (go_simp; go_at_call 57; refine (HI1.out _).mono ?_; rintro e wv ⟨rfl, hb⟩
                   have HLV := Lib.hid (show Add0 w server most A l.length c0 k room by_ wv by first | exact HG0.out.drew.next hb | exact HG0.out.next hb)
                   clear hb)
    all_goals
      go_wp2_with fail
      go_meet
      exact ⟨rfl, HLV.out⟩
  obtain ⟨hc1, hg1⟩ := hcut
  subst hc1
  have HG1 := Lib.hid hg1
  clear hg1 nmj txj kdj
  rename World => wg1
  go_wp2_with fail
  rw [rounds_succ]
  go_wp2_with fail
  have nmj : wg1.cell? ⟨w.heap.size + 1 + 1 + 1, 2, none⟩ = some (.string sUser) := cell_at HG1.out.nm rfl
  have txj : wg1.cell? ⟨w.heap.size + 1 + 1 + 1 + 1, 2, none⟩ = some (.string by_) := cell_at HG1.out.tx rfl
  have kdj : wg1.cell? ⟨w.heap.size + 1 + 1 + 1 + 1 + 1, 2, none⟩ = some (.int .i64 2) := cell_at HG1.out.kd rfl
  go_cut [35] (fun c wx => c = .bool false ∧ Add0 w server most A l.length c0 k room by_ wx)
  case first =>
    go_region_law (go_simp; go_at_call 57; refine (HI2.out _).mono ?_; rintro e wv ⟨rfl, hb⟩
                   have HLV := Lib.hid (show Add0 w server most A l.length c0 k room by_ wv by first | exact HG1.out.drew.next hb | exact HG1.out.next hb)
                   clear hb)
    all_goals
      go_wp2_with fail
      go_meet
      exact ⟨rfl, HLV.out⟩
  obtain ⟨hc2, hg2⟩ := hcut
  subst hc2
  have HG2 := Lib.hid hg2
  clear hg2 nmj txj kdj
  rename World => wg2
  go_wp2_with fail
  rw [rounds_succ]
  go_wp2_with fail
  have t0 := cell_at (j := 0) HG2.out.l.t rfl
  go_cut [48] (fun c wx => c = .bool false ∧ Add0 w server most A l.length c0 k room by_ wx)
  case first =>
    go_region_law (go_simp; go_at_call 58; refine (HO.out _).mono ?_; rintro e wv ⟨rfl, hb⟩
                   have hl : Add0 w server most A l.length c0 k room by_ wv := by first | exact HG2.out.drew.next hb | exact HG2.out.next hb
                   have t0v := cell_at (j := 0) hl.l.t rfl
                   have HLV := Lib.hid hl
                   clear hl hb)
    all_goals
      go_wp2_with fail
      go_meet
      exact ⟨rfl, HLV.out⟩
  obtain ⟨hc3, hg3⟩ := hcut
  subst hc3
  have HG3 := Lib.hid hg3
  clear hg3 t0
  rename World => wg3
  have t0 := cell_at (j := 0) HG3.out.l.t rfl
  have t1 := cell_at (j := 1) HG3.out.l.t rfl
  have t2 := cell_at (j := 2) HG3.out.l.t rfl
  have r0 := cell_at (j := 0) HG3.out.l.r rfl
  have r1 := cell_at (j := 1) HG3.out.l.r rfl
  have r2 := cell_at (j := 2) HG3.out.l.r rfl
  have e0 := cell_at (j := 0) HG3.out.l.e rfl
  have e1 := cell_at (j := 1) HG3.out.l.e rfl
  have e2 := cell_at (j := 2) HG3.out.l.e rfl
  have rz : ∀ j, wg3.frozen? ⟨w.heap.size + 1, j, none⟩ = false := fun j => frozen_at HG3.out.l.r
  have ez : ∀ j, wg3.frozen? ⟨w.heap.size + 1 + 1, j, none⟩ = false := fun j => frozen_at HG3.out.l.e
  go_wp2_with fail
  refine (HAT.out _ HG3.out.l.b).mono ?_
  rintro e wg4 ⟨rfl, hb⟩
  have hg4 : Add0 w server most A l.length c0 k room by_ wg4 := HG3.out.next hb
  clear t0 t1 t2 r0 r1 r2 e0 e1 e2 rz ez
  have t0 := cell_at (j := 0) hg4.l.t rfl
  have t1 := cell_at (j := 1) hg4.l.t rfl
  have t2 := cell_at (j := 2) hg4.l.t rfl
  have r0 := cell_at (j := 0) hg4.l.r rfl
  have r1 := cell_at (j := 1) hg4.l.r rfl
  have r2 := cell_at (j := 2) hg4.l.r rfl
  have e0 := cell_at (j := 0) hg4.l.e rfl
  have e1 := cell_at (j := 1) hg4.l.e rfl
  have e2 := cell_at (j := 2) hg4.l.e rfl
  have rz : ∀ j, wg4.frozen? ⟨w.heap.size + 1, j, none⟩ = false := fun j => frozen_at hg4.l.r
  have ez : ∀ j, wg4.frozen? ⟨w.heap.size + 1 + 1, j, none⟩ = false := fun j => frozen_at hg4.l.e
  have tz : ∀ j, wg4.frozen? ⟨w.heap.size, j, none⟩ = false := fun j => frozen_at hg4.l.t
  have HG4 := Lib.hid hg4
  clear hb hg4
  have hnn := HN.out
  go_upto_block 2 with fail
  go_cut [14] (fun c wx => ∃ i : Nat, i ≤ l.length ∧ c = .int .i64 i ∧ wx = wg4 ∧ (∀ y ∈ l.take i, bytesBefore y.key k.data.toList = true) ∧ (∀ y, l[i]? = some y → bytesBefore y.key k.data.toList = false))
  case first =>
    go_wp2_with fail
    go_loopw [14] (fun c wr => ∃ i : Nat, i ≤ l.length ∧ c = .int .i64 i ∧ wr = wg4 ∧ (∀ y ∈ l.take i, bytesBefore y.key k.data.toList = true)) (fun c _ => l.length - (intOf c).toNat)
    case atStart => exact ⟨0, by omega, rfl, rfl, by simp⟩
    case round =>
      obtain ⟨i, hi, rfl, rfl, hno⟩ := hrel
      have HNO := Lib.hid hno
      clear hno
      by_cases hlt : i < l.length
      · have hy : l[i]? = some l[i] := List.getElem?_eq_getElem hlt
        have hts : l.take (i + 1) = l.take i ++ [l[i]] := by rw [List.take_succ_eq_append_getElem hlt]
        generalize l[i] = y at hy hts
        obtain ⟨r, ha⟩ : ∃ r, A = some ⟨r, 0, none⟩ := by
          rcases HROW.out.2.2 with ⟨_, hnil⟩ | ⟨r, h1, _⟩
          · have := congrArg List.length hnil; simp at this; subst this; simp at hlt
          · exact ⟨r, h1⟩
        obtain ⟨_, hrl, hrw⟩ := HROW.out.at ha
        have hyc : (rowsE l)[i]? = some y.cells.toList := by simp [hy]
        have ca : wr.cell? ⟨r, i * 3, none⟩ = some (.string y.a) := (HG4.out.l.b.cell (p := ⟨r, i * 3, none⟩) hrw.lt).trans (hrw.cell (d := 0) hyc rfl)
        have HTS := Lib.hid hts
        have HY := Lib.hid hy
        subst ha
        clear hy hts hrw hyc
        cases hcm : Op.bytesLess y.a.toList k.toList with
        | true =>
          have HF := Lib.hid (show bytesBefore y.key k.data.toList = true from (less_before _ _).symm.trans hcm)
          go_wp2_with fail
          exact ⟨⟨i + 1, by omega, by go_num, (by first | rfl | trivial), by
            rw [HTS.out]; intro z hz
            rcases List.mem_append.1 hz with h | h
            · exact HNO.out z h
            · simp at h; rw [h]; exact HF.out⟩, by simp [intOf]; omega⟩
        | false =>
          have HF := Lib.hid (show bytesBefore y.key k.data.toList = false from (less_before _ _).symm.trans hcm)
          go_wp2_with fail
          go_meet
          exact ⟨i, by omega, rfl, rfl, HNO.out, fun z hz => by rw [HY.out] at hz; injection hz with hz; rw [← hz]; exact HF.out⟩
      · obtain rfl : i = l.length := by omega
        go_wp2_with fail
        go_meet
        exact ⟨l.length, Nat.le_refl _, rfl, rfl, HNO.out, fun y hy => by simp at hy⟩
  obtain ⟨i, hi, rfl, rfl, h1, h2⟩ := hcut
  have HPL := Lib.hid (place_take (p := fun y => bytesBefore y.key k.data.toList) hi h1 h2)
  clear h1 h2
  obtain ⟨i0, hi0, hz0, hz1, hz2⟩ := info_parts infoN
  have HIN := Lib.hid hi0
  have HZ0 := Lib.hid hz0
  have HZ1 := Lib.hid hz1
  have HZ2 := Lib.hid hz2
  clear hi0 hz0 hz1 hz2
  go_wp2_with fail
  go_cut [] (fun wx => ∃ s' : Sl, Laid3 w server most s'.a s'.n s'.c wx ∧ RowOf wx (fun g => w.heap.size + 1 + 1 < g) 105 3 s' (rowsE (insR ⟨k, room, by_⟩ l)))
  case first =>
    have hwcb := blk_lt HG4.out.l.e
    rcases HROW.out.2.2 with ⟨hs0, hl0⟩ | ⟨r, ha, hcap, hPr, hrl, hrw⟩
    · have hl00 : l = [] := by simpa using hl0
      subst hl00
      obtain ⟨rfl, _, rfl⟩ : A = none ∧ ([] : List En).length = 0 ∧ c0 = 0 := by simpa using hs0
      obtain rfl : i = 0 := by simpa using hi
      clear hs0 hl0
      have HL0 := Lib.hid (show Laid3 w server most none 0 0 wc from HG4.out.l)
      have HLe := Lib.hid (show Laid3 w server most none 0 0 (wc.alloc (.cells #[] 105)) from (HL0.out.alloc3 _))
      have HLx := Lib.hid (show Laid3 w server most none 0 0 (wc.alloc (.cells #[.string k, .string room, .string by_] 105)) from (HL0.out.alloc3 _))
      have HLex := Lib.hid (show Laid3 w server most none 0 0 ((wc.alloc (.cells #[] 105)).alloc (.cells #[.string k, .string room, .string by_] 105)) from (HLe.out.alloc3 _))
      have HLxe := Lib.hid (show Laid3 w server most none 0 0 ((wc.alloc (.cells #[.string k, .string room, .string by_] 105)).alloc (.cells #[] 105)) from (HLx.out.alloc3 _))
      have ct0 : wc.cell? ⟨w.heap.size, 2, none⟩ = some (.slice none 0 0) := cell_at HL0.out.t rfl
      have ft0 : wc.frozen? ⟨w.heap.size, 2, none⟩ = false := frozen_at HL0.out.t
      have cte : (wc.alloc (.cells #[] 105)).cell? ⟨w.heap.size, 2, none⟩ = some (.slice none 0 0) := cell_at HLe.out.t rfl
      have fte : (wc.alloc (.cells #[] 105)).frozen? ⟨w.heap.size, 2, none⟩ = false := frozen_at HLe.out.t
      have ctx : (wc.alloc (.cells #[.string k, .string room, .string by_] 105)).cell? ⟨w.heap.size, 2, none⟩ = some (.slice none 0 0) := cell_at HLx.out.t rfl
      have ftx : (wc.alloc (.cells #[.string k, .string room, .string by_] 105)).frozen? ⟨w.heap.size, 2, none⟩ = false := frozen_at HLx.out.t
      have ctex : ((wc.alloc (.cells #[] 105)).alloc (.cells #[.string k, .string room, .string by_] 105)).cell? ⟨w.heap.size, 2, none⟩ = some (.slice none 0 0) := cell_at HLex.out.t rfl
      have ftex : ((wc.alloc (.cells #[] 105)).alloc (.cells #[.string k, .string room, .string by_] 105)).frozen? ⟨w.heap.size, 2, none⟩ = false := frozen_at HLex.out.t
      have ctxe : ((wc.alloc (.cells #[.string k, .string room, .string by_] 105)).alloc (.cells #[] 105)).cell? ⟨w.heap.size, 2, none⟩ = some (.slice none 0 0) := cell_at HLxe.out.t rfl
      have ftxe : ((wc.alloc (.cells #[.string k, .string room, .string by_] 105)).alloc (.cells #[] 105)).frozen? ⟨w.heap.size, 2, none⟩ = false := frozen_at HLxe.out.t
      have HOe := Lib.hid (show (wc.alloc (.cells #[] 105)).drew.ownsRow (w.heap.size + 1 + 1 + 1) 105 3 (.slice (some ⟨wc.heap.size, 0, none⟩) 0 0) 0 [] from ⟨rfl, .inr ⟨wc.heap.size, 0, #[], rfl, hwcb, heap_new_at wc _ _ rfl, Nat.le_refl _, by decide, rfl, rfl⟩⟩)
      have HOex := Lib.hid (show ((wc.alloc (.cells #[] 105)).alloc (.cells #[.string k, .string room, .string by_] 105)).drew.ownsRow (w.heap.size + 1 + 1 + 1) 105 3 (.slice (some ⟨wc.heap.size, 0, none⟩) 0 0) 0 [] from (HOe.out.alloc _))
      have HOxe := Lib.hid (show ((wc.alloc (.cells #[.string k, .string room, .string by_] 105)).alloc (.cells #[] 105)).drew.ownsRow (w.heap.size + 1 + 1 + 1) 105 3 (.slice (some ⟨wc.heap.size + 1, 0, none⟩) 0 0) 0 [] from ⟨rfl, .inr ⟨wc.heap.size + 1, 0, #[], rfl, Nat.le_succ_of_le hwcb, heap_new_at _ _ _ (by simp), Nat.le_refl _, by decide, rfl, rfl⟩⟩)
      have HSe := Lib.hid (show Src (wc.alloc (.cells #[] 105)).drew 3 none 0 0 ((rowsE []).take 0) from ⟨rfl, by simp, by simp, .inl ⟨rfl, rfl, rfl⟩⟩)
      have HSex := Lib.hid (show Src ((wc.alloc (.cells #[] 105)).alloc (.cells #[.string k, .string room, .string by_] 105)).drew 3 none 0 0 ((rowsE []).take 0) from ⟨rfl, by simp, by simp, .inl ⟨rfl, rfl, rfl⟩⟩)
      have HSxe := Lib.hid (show Src ((wc.alloc (.cells #[.string k, .string room, .string by_] 105)).alloc (.cells #[] 105)).drew 3 none 0 0 ((rowsE []).take 0) from ⟨rfl, by simp, by simp, .inl ⟨rfl, rfl, rfl⟩⟩)
      have HXC := Lib.hid (show ∀ (W : World) (b : Nat), W.heap[b]? = some (.cells #[.string k, .string room, .string by_] 105 (0, 0)) → Src W 3 (some ⟨b, 0, none⟩) 1 1 [[.string k, .string room, .string by_]] from (fun W b h => src_one h rfl rfl rfl))
      have HBXE := Lib.hid (show ((wc.alloc (.cells #[.string k, .string room, .string by_] 105)).alloc (.cells #[] 105)).heap[wc.heap.size]? = some (.cells #[.string k, .string room, .string by_] 105 (0, 0)) from ((heap_old_at _ _ _ (by simp)).trans (heap_new_at _ _ _ rfl)))
      have HBEX := Lib.hid (show ((wc.alloc (.cells #[] 105)).alloc (.cells #[.string k, .string room, .string by_] 105)).heap[wc.heap.size + 1]? = some (.cells #[.string k, .string room, .string by_] 105 (0, 0)) from (heap_new_at _ _ _ (by simp)))
      refine wt_start (S := fun W => W.cell? ⟨w.heap.size, 2, none⟩ = some (.slice none 0 0)) 18 (by kernel_rfl) ⟨by kernel_rfl, by kernel_rfl, by kernel_rfl, by decide⟩ ?_
      intro HTK
      refine wt_take (i := 1) (v := ?_) HTK.out rfl (by decide) (by kernel_rfl) (by kernel_rfl) (fun _ _ _ h => h) (by exact ct0) (Or.inl ⟨by rfl, ?_⟩) ?_
      rotate_left
      · intro W hSw
        try dsimp only at hSw
        go_simp
        try (with_reducible rfl)
      try simp only [Act.put, List.setIfInBounds_toArray, List.set_cons_zero, List.set_cons_succ]
      refine wt_take (i := 3) (v := ?_) HTK.out rfl (by decide) (by kernel_rfl) (by kernel_rfl) (fun _ _ _ h => h) (by exact ct0) (Or.inl ⟨by rfl, ?_⟩) ?_
      rotate_left
      · intro W hSw
        try dsimp only at hSw
        go_simp
        try (with_reducible rfl)
      try simp only [Act.put, List.setIfInBounds_toArray, List.set_cons_zero, List.set_cons_succ]
      refine wt_take (i := 6) (v := ?_) HTK.out rfl (by decide) (by kernel_rfl) (by kernel_rfl) (fun _ _ _ h => h) (by exact ct0) (Or.inl ⟨by rfl, ?_⟩) ?_
      rotate_left
      · intro W hSw
        try dsimp only at hSw
        go_simp
        try (with_reducible rfl)
      try simp only [Act.put, List.setIfInBounds_toArray, List.set_cons_zero, List.set_cons_succ]
      refine wt_take (i := 7) (v := ?_) HTK.out rfl (by decide) (by kernel_rfl) (by kernel_rfl) (fun _ _ _ h => h) (by exact ct0) (Or.inl ⟨by rfl, ?_⟩) ?_
      rotate_left
      · intro W hSw
        try dsimp only at hSw
        go_simp
        try (with_reducible rfl)
      try simp only [Act.put, List.setIfInBounds_toArray, List.set_cons_zero, List.set_cons_succ]
      refine wt_take (i := 8) (v := ?_) HTK.out rfl (by decide) (by kernel_rfl) (by kernel_rfl) (fun _ _ _ h => h) (by exact ct0) (Or.inl ⟨by rfl, ?_⟩) ?_
      rotate_left
      · intro W hSw
        try dsimp only at hSw
        go_simp
        try (with_reducible rfl)
      try simp only [Act.put, List.setIfInBounds_toArray, List.set_cons_zero, List.set_cons_succ]
      refine wt_take (i := 9) (v := ?_) HTK.out rfl (by decide) (by kernel_rfl) (by kernel_rfl) (fun _ _ _ h => h) (by exact ct0) (Or.inl ⟨by rfl, ?_⟩) ?_
      rotate_left
      · intro W hSw
        try dsimp only at hSw
        go_simp
        try (with_reducible rfl)
      try simp only [Act.put, List.setIfInBounds_toArray, List.set_cons_zero, List.set_cons_succ]
      refine wt_take (i := 12) (v := ?_) HTK.out rfl (by decide) (by kernel_rfl) (by kernel_rfl) (fun _ _ _ h => h) (by exact ct0) (Or.inl ⟨by rfl, ?_⟩) ?_
      rotate_left
      · intro W hSw
        try dsimp only at hSw
        go_simp
        try (with_reducible rfl)
      try simp only [Act.put, List.setIfInBounds_toArray, List.set_cons_zero, List.set_cons_succ]
      refine wt_take (i := 14) (v := ?_) HTK.out rfl (by decide) (by kernel_rfl) (by kernel_rfl) (fun _ _ _ h => h) (by exact ct0) (Or.inl ⟨by rfl, ?_⟩) ?_
      rotate_left
      · intro W hSw
        try dsimp only at hSw
        go_simp
        try (with_reducible rfl)
      try simp only [Act.put, List.setIfInBounds_toArray, List.set_cons_zero, List.set_cons_succ]
      refine wt_take (i := 2) (v := ?_) HTK.out rfl (by decide) (by kernel_rfl) (by kernel_rfl) (fun _ _ _ h => h) (by exact ct0) (Or.inl ⟨by rfl, ?_⟩) ?_
      rotate_left
      · intro W hSw
        try dsimp only at hSw
        go_simp
        try (with_reducible rfl)
      try simp only [Act.put, List.setIfInBounds_toArray, List.set_cons_zero, List.set_cons_succ]
      refine wt_take (i := 13) (v := ?_) HTK.out rfl (by decide) (by kernel_rfl) (by kernel_rfl) (fun _ _ _ h => h) (by exact ct0) (Or.inl ⟨by rfl, ?_⟩) ?_
      rotate_left
      · intro W hSw
        try dsimp only at hSw
        go_simp
        try (with_reducible rfl)
      try simp only [Act.put, List.setIfInBounds_toArray, List.set_cons_zero, List.set_cons_succ]
      refine wt_take (i := 4) (v := ?_) HTK.out rfl (by decide) (by kernel_rfl) (by kernel_rfl) (fun _ _ _ h => h) (by exact ct0) (Or.inl ⟨by rfl, ?_⟩) ?_
      rotate_left
      · intro W hSw
        try dsimp only at hSw
        go_simp
        try (with_reducible rfl)
      try simp only [Act.put, List.setIfInBounds_toArray, List.set_cons_zero, List.set_cons_succ]
      refine wt_take (i := 15) (v := ?_) HTK.out rfl (by decide) (by kernel_rfl) (by kernel_rfl) (fun _ _ _ h => h) (by exact ct0) (Or.inl ⟨by rfl, ?_⟩) ?_
      rotate_left
      · intro W hSw
        try dsimp only at hSw
        go_simp
        try (with_reducible rfl)
      try simp only [Act.put, List.setIfInBounds_toArray, List.set_cons_zero, List.set_cons_succ]
      refine wt_ready (rs := [0, 10]) (by kernel_rfl) (by simp) ?_
      refine AllT.cons rfl (by decide) (fun K hK => ?_) ?_
      · go_simp
        refine hK.out _ _ (by exact cte) ?_
        clear hK K
        try simp only [Act.put, List.setIfInBounds_toArray, List.set_cons_zero, List.set_cons_succ]
        refine wt_ready (rs := [5, 10]) (by kernel_rfl) (by simp) ?_
        refine AllT.cons rfl (by decide) (fun K hK => ?_) ?_
        · refine step_append_src _ (by rfl) _ _ _ (by rfl) (w.heap.size + 1 + 1 + 1) 105 i0 _ 3 48 Tryz.underlying32 HIN.out HZ0.out HZ1.out HZ2.out rfl (by omega) _ 0 [] (by rfl) HOe.out _ 0 0 ((rowsE []).take 0) (by rfl) HSe.out (by unfold maxLen; omega) (by omega) (by simp; omega) ?_
          intro a1 cap1 w2 hown1 hgrow1 hat1
          try simp only [Nat.zero_add, List.nil_append] at hown1 hat1 ⊢
          have hob1 : ∀ j, (Value.slice a1 0 cap1).ownBlock = some j → w.heap.size + 1 + 1 < j := by
            intro j hj
            rcases hat1 with h | h
            · rw [h] at hj; simp only [Value.ownBlock] at hj; injection hj with hj; omega
            · rw [h] at hj; injection hj with hj; rw [← hj]; simp; omega
          have hl2 : Laid3 w server most none 0 0 w2 := HLe.out.drew.grown hgrow1 (fun j hj => by simp only [Value.ownBlock] at hj; injection hj with hj; omega)
          have ct2 : w2.cell? ⟨w.heap.size, 2, none⟩ = some (.slice none 0 0) := cell_at hl2.t rfl
          have ft2 : w2.frozen? ⟨w.heap.size, 2, none⟩ = false := frozen_at hl2.t
          have hown1' := hown1.alloc (.cells #[.string k, .string room, .string by_] 105)
          have hl2' : Laid3 w server most none 0 0 (w2.alloc (.cells #[.string k, .string room, .string by_] 105)) := hl2.alloc3 _
          have hx2' : Src (w2.alloc (.cells #[.string k, .string room, .string by_] 105)) 3 (some ⟨w2.heap.size, 0, none⟩) 1 1 [[.string k, .string room, .string by_]] := HXC.out _ _ (heap_new_at _ _ _ rfl)
          have ct2' : (w2.alloc (.cells #[.string k, .string room, .string by_] 105)).cell? ⟨w.heap.size, 2, none⟩ = some (.slice none 0 0) := cell_at hl2'.t rfl
          have ft2' : (w2.alloc (.cells #[.string k, .string room, .string by_] 105)).frozen? ⟨w.heap.size, 2, none⟩ = false := frozen_at hl2'.t
          have HOWN := Lib.hid hown1'
          have HL2 := Lib.hid hl2'
          have HX2 := Lib.hid hx2'
          clear hown1 hgrow1 hat1 hl2 hx2' hown1' hl2'
          refine hK.out _ _ (by exact ct2) ?_
          clear hK K
          try simp only [Act.put, List.setIfInBounds_toArray, List.set_cons_zero, List.set_cons_succ]
          refine wt_ready (rs := [10]) (by kernel_rfl) (by simp) ?_
          refine AllT.cons rfl (by decide) (fun K hK => ?_) ?_
          · go_simp
            refine hK.out _ _ (by exact ct2') ?_
            clear hK K
            try simp only [Act.put, List.setIfInBounds_toArray, List.set_cons_zero, List.set_cons_succ]
            refine wt_ready (rs := [11]) (by kernel_rfl) (by simp) ?_
            refine AllT.cons rfl (by decide) (fun K hK => ?_) ?_
            · refine step_append_src _ (by rfl) _ _ _ (by rfl) (w.heap.size + 1 + 1 + 1) 105 i0 _ 3 48 Tryz.underlying32 HIN.out HZ0.out HZ1.out HZ2.out rfl (by omega) _ _ _ (by rfl) HOWN.out _ 1 1 [[.string k, .string room, .string by_]] (by rfl) HX2.out (by unfold maxLen; omega) (by omega) (by have := blk_lt HL2.out.e; omega) ?_
              intro a2 cap2 w3 hown2 hgrow2 hat2
              try simp only [Nat.zero_add] at hown2 hat2 ⊢
              have hob2 : ∀ j, (Value.slice a2 1 cap2).ownBlock = some j → w.heap.size + 1 + 1 < j := by
                intro j hj
                rcases hat2 with h | h
                · rw [h] at hj; exact hob1 j hj
                · rw [h] at hj; injection hj with hj; have := blk_lt HL2.out.e; omega
              have hl3 : Laid3 w server most none 0 0 w3 := HL2.out.grown hgrow2 hob1
              have ct3 : w3.cell? ⟨w.heap.size, 2, none⟩ = some (.slice none 0 0) := cell_at hl3.t rfl
              have ft3 : w3.frozen? ⟨w.heap.size, 2, none⟩ = false := frozen_at hl3.t
              have hx3 : Src w3 3 none 0 0 ((rowsE []).drop 0) := ⟨rfl, by simp, by simp, .inl ⟨rfl, rfl, rfl⟩⟩
              have HOWN2 := Lib.hid hown2
              have HL3 := Lib.hid hl3
              have HX3 := Lib.hid hx3
              clear hown2 hgrow2 hat2 hl3 hx3
              refine hK.out _ _ (by exact ct3) ?_
              clear hK K
              try simp only [Act.put, List.setIfInBounds_toArray, List.set_cons_zero, List.set_cons_succ]
              refine wt_ready (rs := [16]) (by kernel_rfl) (by simp) ?_
              refine AllT.cons rfl (by decide) (fun K hK => ?_) ?_
              · refine step_append_src _ (by rfl) _ _ _ (by rfl) (w.heap.size + 1 + 1 + 1) 105 i0 _ 3 48 Tryz.underlying32 HIN.out HZ0.out HZ1.out HZ2.out rfl (by omega) _ _ _ (by rfl) HOWN2.out _ _ _ ((rowsE []).drop 0) (by rfl) HX3.out (by unfold maxLen; omega) (by omega) (by have := blk_lt HL3.out.e; omega) ?_
                intro a3 cap3 w4 hown3 hgrow3 hat3
                have hl4 : Laid3 w server most none 0 0 w4 := HL3.out.grown hgrow3 hob2
                have ft4 : w4.frozen? ⟨w.heap.size, 2, none⟩ = false := frozen_at hl4.t
                have ct4 : w4.cell? ⟨w.heap.size, 2, none⟩ = some (.slice none 0 0) := cell_at hl4.t rfl
                have HOWN3 := Lib.hid hown3
                have HL4 := Lib.hid hl4
                clear hown3 hgrow3 hat3 hl4
                refine hK.out _ _ (by exact ct4) ?_
                clear hK K
                try simp only [Act.put, List.setIfInBounds_toArray, List.set_cons_zero, List.set_cons_succ]
                refine wt_take (i := 17) (v := ?_) HTK.out rfl (by decide) (by kernel_rfl) (by kernel_rfl) (fun _ _ _ h => h) (by exact ct4) (Or.inl ⟨by rfl, ?_⟩) ?_
                rotate_left
                · intro W hSw
                  try dsimp only at hSw
                  go_simp
                  try (with_reducible rfl)
                try simp only [Act.put, List.setIfInBounds_toArray, List.set_cons_zero, List.set_cons_succ]
                refine wt_last (k := 18) (by kernel_rfl) (by kernel_rfl) (by decide) rfl (fun K hK => ?_)
                go_simp
                refine hK.out _ _ ?_
                clear hK K
                try simp only [Act.put, List.setIfInBounds_toArray, List.set_cons_zero, List.set_cons_succ]
                have hl5 := HL4.out.put a3 1 cap3
                obtain ⟨s', hs', hro⟩ := RowOf.of_own (l := rowsE (insR ⟨k, room, by_⟩ [])) (by rw [insR_flat ⟨k, room, by_⟩ HPL.out]; exact HOWN3.out) (fun y hy => by obtain ⟨z, _, rfl⟩ := List.mem_map.1 hy; rfl) (by decide) (by simp [insR_length] <;> omega)
                obtain ⟨sa, sn, sc⟩ := s'
                simp only [Sl.val] at hs'
                injection hs' with hs1 hs2 hs3
                subst hs1 hs2 hs3
                have HL5 := Lib.hid hl5
                have HRO := Lib.hid hro
                clear hl5 hro
                skip
                go_wp2_with fail
                go_meet
                exact ⟨⟨a3, _, cap3⟩, HL5.out, (HRO.out.same (by simp [World.setCell]) (fun g hg hP => Below.heap_setCell _ _ _ _ (by show g ≠ w.heap.size; omega))).mono (fun g _ h => by omega)⟩
              exact AllT.nil
            exact AllT.nil
          exact AllT.nil
        refine AllT.cons rfl (by decide) (fun K hK => ?_) ?_
        · go_simp
          refine hK.out _ _ (by exact ctex) ?_
          clear hK K
          try simp only [Act.put, List.setIfInBounds_toArray, List.set_cons_zero, List.set_cons_succ]
          refine wt_ready (rs := [5]) (by kernel_rfl) (by simp) ?_
          refine AllT.cons rfl (by decide) (fun K hK => ?_) ?_
          · refine step_append_src _ (by rfl) _ _ _ (by rfl) (w.heap.size + 1 + 1 + 1) 105 i0 _ 3 48 Tryz.underlying32 HIN.out HZ0.out HZ1.out HZ2.out rfl (by omega) _ 0 [] (by rfl) HOex.out _ 0 0 ((rowsE []).take 0) (by rfl) HSex.out (by unfold maxLen; omega) (by omega) (by simp; omega) ?_
            intro a1 cap1 w2 hown1 hgrow1 hat1
            try simp only [Nat.zero_add, List.nil_append] at hown1 hat1 ⊢
            have hob1 : ∀ j, (Value.slice a1 0 cap1).ownBlock = some j → w.heap.size + 1 + 1 < j := by
              intro j hj
              rcases hat1 with h | h
              · rw [h] at hj; simp only [Value.ownBlock] at hj; injection hj with hj; omega
              · rw [h] at hj; injection hj with hj; rw [← hj]; simp; omega
            have hl2 : Laid3 w server most none 0 0 w2 := HLex.out.drew.grown hgrow1 (fun j hj => by simp only [Value.ownBlock] at hj; injection hj with hj; omega)
            have ct2 : w2.cell? ⟨w.heap.size, 2, none⟩ = some (.slice none 0 0) := cell_at hl2.t rfl
            have ft2 : w2.frozen? ⟨w.heap.size, 2, none⟩ = false := frozen_at hl2.t
            have hx2' : Src w2 3 (some ⟨wc.heap.size + 1, 0, none⟩) 1 1 [[.string k, .string room, .string by_]] := HXC.out _ _ ((hgrow1.block _ (by simp <;> omega) (by simp only [Value.ownBlock]; intro he; injection he with he; omega)).trans HBEX.out)
            have HOWN := Lib.hid hown1
            have HL2 := Lib.hid hl2
            have HX2 := Lib.hid hx2'
            clear hown1 hgrow1 hat1 hl2 hx2'
            refine hK.out _ _ (by exact ct2) ?_
            clear hK K
            try simp only [Act.put, List.setIfInBounds_toArray, List.set_cons_zero, List.set_cons_succ]
            refine wt_ready (rs := [11]) (by kernel_rfl) (by simp) ?_
            refine AllT.cons rfl (by decide) (fun K hK => ?_) ?_
            · refine step_append_src _ (by rfl) _ _ _ (by rfl) (w.heap.size + 1 + 1 + 1) 105 i0 _ 3 48 Tryz.underlying32 HIN.out HZ0.out HZ1.out HZ2.out rfl (by omega) _ _ _ (by rfl) HOWN.out _ 1 1 [[.string k, .string room, .string by_]] (by rfl) HX2.out (by unfold maxLen; omega) (by omega) (by have := blk_lt HL2.out.e; omega) ?_
              intro a2 cap2 w3 hown2 hgrow2 hat2
              try simp only [Nat.zero_add] at hown2 hat2 ⊢
              have hob2 : ∀ j, (Value.slice a2 1 cap2).ownBlock = some j → w.heap.size + 1 + 1 < j := by
                intro j hj
                rcases hat2 with h | h
                · rw [h] at hj; exact hob1 j hj
                · rw [h] at hj; injection hj with hj; have := blk_lt HL2.out.e; omega
              have hl3 : Laid3 w server most none 0 0 w3 := HL2.out.grown hgrow2 hob1
              have ct3 : w3.cell? ⟨w.heap.size, 2, none⟩ = some (.slice none 0 0) := cell_at hl3.t rfl
              have ft3 : w3.frozen? ⟨w.heap.size, 2, none⟩ = false := frozen_at hl3.t
              have hx3 : Src w3 3 none 0 0 ((rowsE []).drop 0) := ⟨rfl, by simp, by simp, .inl ⟨rfl, rfl, rfl⟩⟩
              have HOWN2 := Lib.hid hown2
              have HL3 := Lib.hid hl3
              have HX3 := Lib.hid hx3
              clear hown2 hgrow2 hat2 hl3 hx3
              refine hK.out _ _ (by exact ct3) ?_
              clear hK K
              try simp only [Act.put, List.setIfInBounds_toArray, List.set_cons_zero, List.set_cons_succ]
              refine wt_ready (rs := [16]) (by kernel_rfl) (by simp) ?_
              refine AllT.cons rfl (by decide) (fun K hK => ?_) ?_
              · refine step_append_src _ (by rfl) _ _ _ (by rfl) (w.heap.size + 1 + 1 + 1) 105 i0 _ 3 48 Tryz.underlying32 HIN.out HZ0.out HZ1.out HZ2.out rfl (by omega) _ _ _ (by rfl) HOWN2.out _ _ _ ((rowsE []).drop 0) (by rfl) HX3.out (by unfold maxLen; omega) (by omega) (by have := blk_lt HL3.out.e; omega) ?_
                intro a3 cap3 w4 hown3 hgrow3 hat3
                have hl4 : Laid3 w server most none 0 0 w4 := HL3.out.grown hgrow3 hob2
                have ft4 : w4.frozen? ⟨w.heap.size, 2, none⟩ = false := frozen_at hl4.t
                have ct4 : w4.cell? ⟨w.heap.size, 2, none⟩ = some (.slice none 0 0) := cell_at hl4.t rfl
                have HOWN3 := Lib.hid hown3
                have HL4 := Lib.hid hl4
                clear hown3 hgrow3 hat3 hl4
                refine hK.out _ _ (by exact ct4) ?_
                clear hK K
                try simp only [Act.put, List.setIfInBounds_toArray, List.set_cons_zero, List.set_cons_succ]
                refine wt_take (i := 17) (v := ?_) HTK.out rfl (by decide) (by kernel_rfl) (by kernel_rfl) (fun _ _ _ h => h) (by exact ct4) (Or.inl ⟨by rfl, ?_⟩) ?_
                rotate_left
                · intro W hSw
                  try dsimp only at hSw
                  go_simp
                  try (with_reducible rfl)
                try simp only [Act.put, List.setIfInBounds_toArray, List.set_cons_zero, List.set_cons_succ]
                refine wt_last (k := 18) (by kernel_rfl) (by kernel_rfl) (by decide) rfl (fun K hK => ?_)
                go_simp
                refine hK.out _ _ ?_
                clear hK K
                try simp only [Act.put, List.setIfInBounds_toArray, List.set_cons_zero, List.set_cons_succ]
                have hl5 := HL4.out.put a3 1 cap3
                obtain ⟨s', hs', hro⟩ := RowOf.of_own (l := rowsE (insR ⟨k, room, by_⟩ [])) (by rw [insR_flat ⟨k, room, by_⟩ HPL.out]; exact HOWN3.out) (fun y hy => by obtain ⟨z, _, rfl⟩ := List.mem_map.1 hy; rfl) (by decide) (by simp [insR_length] <;> omega)
                obtain ⟨sa, sn, sc⟩ := s'
                simp only [Sl.val] at hs'
                injection hs' with hs1 hs2 hs3
                subst hs1 hs2 hs3
                have HL5 := Lib.hid hl5
                have HRO := Lib.hid hro
                clear hl5 hro
                skip
                go_wp2_with fail
                go_meet
                exact ⟨⟨a3, _, cap3⟩, HL5.out, (HRO.out.same (by simp [World.setCell]) (fun g hg hP => Below.heap_setCell _ _ _ _ (by show g ≠ w.heap.size; omega))).mono (fun g _ h => by omega)⟩
              exact AllT.nil
            exact AllT.nil
          exact AllT.nil
        exact AllT.nil
      refine AllT.cons rfl (by decide) (fun K hK => ?_) ?_
      · go_simp
        refine hK.out _ _ (by exact ctx) ?_
        clear hK K
        try simp only [Act.put, List.setIfInBounds_toArray, List.set_cons_zero, List.set_cons_succ]
        refine wt_ready (rs := [0]) (by kernel_rfl) (by simp) ?_
        refine AllT.cons rfl (by decide) (fun K hK => ?_) ?_
        · go_simp
          refine hK.out _ _ (by exact ctxe) ?_
          clear hK K
          try simp only [Act.put, List.setIfInBounds_toArray, List.set_cons_zero, List.set_cons_succ]
          refine wt_ready (rs := [5]) (by kernel_rfl) (by simp) ?_
          refine AllT.cons rfl (by decide) (fun K hK => ?_) ?_
          · refine step_append_src _ (by rfl) _ _ _ (by rfl) (w.heap.size + 1 + 1 + 1) 105 i0 _ 3 48 Tryz.underlying32 HIN.out HZ0.out HZ1.out HZ2.out rfl (by omega) _ 0 [] (by rfl) HOxe.out _ 0 0 ((rowsE []).take 0) (by rfl) HSxe.out (by unfold maxLen; omega) (by omega) (by simp; omega) ?_
            intro a1 cap1 w2 hown1 hgrow1 hat1
            try simp only [Nat.zero_add, List.nil_append] at hown1 hat1 ⊢
            have hob1 : ∀ j, (Value.slice a1 0 cap1).ownBlock = some j → w.heap.size + 1 + 1 < j := by
              intro j hj
              rcases hat1 with h | h
              · rw [h] at hj; simp only [Value.ownBlock] at hj; injection hj with hj; omega
              · rw [h] at hj; injection hj with hj; rw [← hj]; simp; omega
            have hl2 : Laid3 w server most none 0 0 w2 := HLxe.out.drew.grown hgrow1 (fun j hj => by simp only [Value.ownBlock] at hj; injection hj with hj; omega)
            have ct2 : w2.cell? ⟨w.heap.size, 2, none⟩ = some (.slice none 0 0) := cell_at hl2.t rfl
            have ft2 : w2.frozen? ⟨w.heap.size, 2, none⟩ = false := frozen_at hl2.t
            have hx2' : Src w2 3 (some ⟨wc.heap.size, 0, none⟩) 1 1 [[.string k, .string room, .string by_]] := HXC.out _ _ ((hgrow1.block _ (by simp <;> omega) (by simp only [Value.ownBlock]; intro he; injection he with he; omega)).trans HBXE.out)
            have HOWN := Lib.hid hown1
            have HL2 := Lib.hid hl2
            have HX2 := Lib.hid hx2'
            clear hown1 hgrow1 hat1 hl2 hx2'
            refine hK.out _ _ (by exact ct2) ?_
            clear hK K
            try simp only [Act.put, List.setIfInBounds_toArray, List.set_cons_zero, List.set_cons_succ]
            refine wt_ready (rs := [11]) (by kernel_rfl) (by simp) ?_
            refine AllT.cons rfl (by decide) (fun K hK => ?_) ?_
            · refine step_append_src _ (by rfl) _ _ _ (by rfl) (w.heap.size + 1 + 1 + 1) 105 i0 _ 3 48 Tryz.underlying32 HIN.out HZ0.out HZ1.out HZ2.out rfl (by omega) _ _ _ (by rfl) HOWN.out _ 1 1 [[.string k, .string room, .string by_]] (by rfl) HX2.out (by unfold maxLen; omega) (by omega) (by have := blk_lt HL2.out.e; omega) ?_
              intro a2 cap2 w3 hown2 hgrow2 hat2
              try simp only [Nat.zero_add] at hown2 hat2 ⊢
              have hob2 : ∀ j, (Value.slice a2 1 cap2).ownBlock = some j → w.heap.size + 1 + 1 < j := by
                intro j hj
                rcases hat2 with h | h
                · rw [h] at hj; exact hob1 j hj
                · rw [h] at hj; injection hj with hj; have := blk_lt HL2.out.e; omega
              have hl3 : Laid3 w server most none 0 0 w3 := HL2.out.grown hgrow2 hob1
              have ct3 : w3.cell? ⟨w.heap.size, 2, none⟩ = some (.slice none 0 0) := cell_at hl3.t rfl
              have ft3 : w3.frozen? ⟨w.heap.size, 2, none⟩ = false := frozen_at hl3.t
              have hx3 : Src w3 3 none 0 0 ((rowsE []).drop 0) := ⟨rfl, by simp, by simp, .inl ⟨rfl, rfl, rfl⟩⟩
              have HOWN2 := Lib.hid hown2
              have HL3 := Lib.hid hl3
              have HX3 := Lib.hid hx3
              clear hown2 hgrow2 hat2 hl3 hx3
              refine hK.out _ _ (by exact ct3) ?_
              clear hK K
              try simp only [Act.put, List.setIfInBounds_toArray, List.set_cons_zero, List.set_cons_succ]
              refine wt_ready (rs := [16]) (by kernel_rfl) (by simp) ?_
              refine AllT.cons rfl (by decide) (fun K hK => ?_) ?_
              · refine step_append_src _ (by rfl) _ _ _ (by rfl) (w.heap.size + 1 + 1 + 1) 105 i0 _ 3 48 Tryz.underlying32 HIN.out HZ0.out HZ1.out HZ2.out rfl (by omega) _ _ _ (by rfl) HOWN2.out _ _ _ ((rowsE []).drop 0) (by rfl) HX3.out (by unfold maxLen; omega) (by omega) (by have := blk_lt HL3.out.e; omega) ?_
                intro a3 cap3 w4 hown3 hgrow3 hat3
                have hl4 : Laid3 w server most none 0 0 w4 := HL3.out.grown hgrow3 hob2
                have ft4 : w4.frozen? ⟨w.heap.size, 2, none⟩ = false := frozen_at hl4.t
                have ct4 : w4.cell? ⟨w.heap.size, 2, none⟩ = some (.slice none 0 0) := cell_at hl4.t rfl
                have HOWN3 := Lib.hid hown3
                have HL4 := Lib.hid hl4
                clear hown3 hgrow3 hat3 hl4
                refine hK.out _ _ (by exact ct4) ?_
                clear hK K
                try simp only [Act.put, List.setIfInBounds_toArray, List.set_cons_zero, List.set_cons_succ]
                refine wt_take (i := 17) (v := ?_) HTK.out rfl (by decide) (by kernel_rfl) (by kernel_rfl) (fun _ _ _ h => h) (by exact ct4) (Or.inl ⟨by rfl, ?_⟩) ?_
                rotate_left
                · intro W hSw
                  try dsimp only at hSw
                  go_simp
                  try (with_reducible rfl)
                try simp only [Act.put, List.setIfInBounds_toArray, List.set_cons_zero, List.set_cons_succ]
                refine wt_last (k := 18) (by kernel_rfl) (by kernel_rfl) (by decide) rfl (fun K hK => ?_)
                go_simp
                refine hK.out _ _ ?_
                clear hK K
                try simp only [Act.put, List.setIfInBounds_toArray, List.set_cons_zero, List.set_cons_succ]
                have hl5 := HL4.out.put a3 1 cap3
                obtain ⟨s', hs', hro⟩ := RowOf.of_own (l := rowsE (insR ⟨k, room, by_⟩ [])) (by rw [insR_flat ⟨k, room, by_⟩ HPL.out]; exact HOWN3.out) (fun y hy => by obtain ⟨z, _, rfl⟩ := List.mem_map.1 hy; rfl) (by decide) (by simp [insR_length] <;> omega)
                obtain ⟨sa, sn, sc⟩ := s'
                simp only [Sl.val] at hs'
                injection hs' with hs1 hs2 hs3
                subst hs1 hs2 hs3
                have HL5 := Lib.hid hl5
                have HRO := Lib.hid hro
                clear hl5 hro
                skip
                go_wp2_with fail
                go_meet
                exact ⟨⟨a3, _, cap3⟩, HL5.out, (HRO.out.same (by simp [World.setCell]) (fun g hg hP => Below.heap_setCell _ _ _ _ (by show g ≠ w.heap.size; omega))).mono (fun g _ h => by omega)⟩
              exact AllT.nil
            exact AllT.nil
          exact AllT.nil
        exact AllT.nil
      exact AllT.nil
    dsimp only at ha hcap hrw
    subst ha
    have HRW := Lib.hid hrw
    clear hrw hPr
    have HL0 := Lib.hid (show Laid3 w server most (some ⟨r, 0, none⟩) l.length c0 wc from HG4.out.l)
    have HLe := Lib.hid (show Laid3 w server most (some ⟨r, 0, none⟩) l.length c0 (wc.alloc (.cells #[] 105)) from (HL0.out.alloc3 _))
    have HLx := Lib.hid (show Laid3 w server most (some ⟨r, 0, none⟩) l.length c0 (wc.alloc (.cells #[.string k, .string room, .string by_] 105)) from (HL0.out.alloc3 _))
    have HLex := Lib.hid (show Laid3 w server most (some ⟨r, 0, none⟩) l.length c0 ((wc.alloc (.cells #[] 105)).alloc (.cells #[.string k, .string room, .string by_] 105)) from (HLe.out.alloc3 _))
    have HLxe := Lib.hid (show Laid3 w server most (some ⟨r, 0, none⟩) l.length c0 ((wc.alloc (.cells #[.string k, .string room, .string by_] 105)).alloc (.cells #[] 105)) from (HLx.out.alloc3 _))
    have ct0 : wc.cell? ⟨w.heap.size, 2, none⟩ = some (.slice (some ⟨r, 0, none⟩) l.length c0) := cell_at HL0.out.t rfl
    have ft0 : wc.frozen? ⟨w.heap.size, 2, none⟩ = false := frozen_at HL0.out.t
    have cte : (wc.alloc (.cells #[] 105)).cell? ⟨w.heap.size, 2, none⟩ = some (.slice (some ⟨r, 0, none⟩) l.length c0) := cell_at HLe.out.t rfl
    have fte : (wc.alloc (.cells #[] 105)).frozen? ⟨w.heap.size, 2, none⟩ = false := frozen_at HLe.out.t
    have ctx : (wc.alloc (.cells #[.string k, .string room, .string by_] 105)).cell? ⟨w.heap.size, 2, none⟩ = some (.slice (some ⟨r, 0, none⟩) l.length c0) := cell_at HLx.out.t rfl
    have ftx : (wc.alloc (.cells #[.string k, .string room, .string by_] 105)).frozen? ⟨w.heap.size, 2, none⟩ = false := frozen_at HLx.out.t
    have ctex : ((wc.alloc (.cells #[] 105)).alloc (.cells #[.string k, .string room, .string by_] 105)).cell? ⟨w.heap.size, 2, none⟩ = some (.slice (some ⟨r, 0, none⟩) l.length c0) := cell_at HLex.out.t rfl
    have ftex : ((wc.alloc (.cells #[] 105)).alloc (.cells #[.string k, .string room, .string by_] 105)).frozen? ⟨w.heap.size, 2, none⟩ = false := frozen_at HLex.out.t
    have ctxe : ((wc.alloc (.cells #[.string k, .string room, .string by_] 105)).alloc (.cells #[] 105)).cell? ⟨w.heap.size, 2, none⟩ = some (.slice (some ⟨r, 0, none⟩) l.length c0) := cell_at HLxe.out.t rfl
    have ftxe : ((wc.alloc (.cells #[.string k, .string room, .string by_] 105)).alloc (.cells #[] 105)).frozen? ⟨w.heap.size, 2, none⟩ = false := frozen_at HLxe.out.t
    have HOe := Lib.hid (show (wc.alloc (.cells #[] 105)).drew.ownsRow (w.heap.size + 1 + 1 + 1) 105 3 (.slice (some ⟨wc.heap.size, 0, none⟩) 0 0) 0 [] from ⟨rfl, .inr ⟨wc.heap.size, 0, #[], rfl, hwcb, heap_new_at wc _ _ rfl, Nat.le_refl _, by decide, rfl, rfl⟩⟩)
    have HOex := Lib.hid (show ((wc.alloc (.cells #[] 105)).alloc (.cells #[.string k, .string room, .string by_] 105)).drew.ownsRow (w.heap.size + 1 + 1 + 1) 105 3 (.slice (some ⟨wc.heap.size, 0, none⟩) 0 0) 0 [] from (HOe.out.alloc _))
    have HOxe := Lib.hid (show ((wc.alloc (.cells #[.string k, .string room, .string by_] 105)).alloc (.cells #[] 105)).drew.ownsRow (w.heap.size + 1 + 1 + 1) 105 3 (.slice (some ⟨wc.heap.size + 1, 0, none⟩) 0 0) 0 [] from ⟨rfl, .inr ⟨wc.heap.size + 1, 0, #[], rfl, Nat.le_succ_of_le hwcb, heap_new_at _ _ _ (by simp), Nat.le_refl _, by decide, rfl, rfl⟩⟩)
    have HRe := Lib.hid (show Rw (wc.alloc (.cells #[] 105)).drew 105 r c0 3 (rowsE l) from (HRW.out.same (HLe.out.b.block r hrl)))
    have HSe := Lib.hid (show Src (wc.alloc (.cells #[] 105)).drew 3 (some ⟨r, 0, none⟩) i c0 ((rowsE l).take i) from (by have := HRe.out.src (oneE l) (by omega) 0 i c0 (by simp; omega); simpa using this))
    have HRex := Lib.hid (show Rw ((wc.alloc (.cells #[] 105)).alloc (.cells #[.string k, .string room, .string by_] 105)).drew 105 r c0 3 (rowsE l) from (HRW.out.same (HLex.out.b.block r hrl)))
    have HSex := Lib.hid (show Src ((wc.alloc (.cells #[] 105)).alloc (.cells #[.string k, .string room, .string by_] 105)).drew 3 (some ⟨r, 0, none⟩) i c0 ((rowsE l).take i) from (by have := HRex.out.src (oneE l) (by omega) 0 i c0 (by simp; omega); simpa using this))
    have HRxe := Lib.hid (show Rw ((wc.alloc (.cells #[.string k, .string room, .string by_] 105)).alloc (.cells #[] 105)).drew 105 r c0 3 (rowsE l) from (HRW.out.same (HLxe.out.b.block r hrl)))
    have HSxe := Lib.hid (show Src ((wc.alloc (.cells #[.string k, .string room, .string by_] 105)).alloc (.cells #[] 105)).drew 3 (some ⟨r, 0, none⟩) i c0 ((rowsE l).take i) from (by have := HRxe.out.src (oneE l) (by omega) 0 i c0 (by simp; omega); simpa using this))
    have HXC := Lib.hid (show ∀ (W : World) (b : Nat), W.heap[b]? = some (.cells #[.string k, .string room, .string by_] 105 (0, 0)) → Src W 3 (some ⟨b, 0, none⟩) 1 1 [[.string k, .string room, .string by_]] from (fun W b h => src_one h rfl rfl rfl))
    have HBXE := Lib.hid (show ((wc.alloc (.cells #[.string k, .string room, .string by_] 105)).alloc (.cells #[] 105)).heap[wc.heap.size]? = some (.cells #[.string k, .string room, .string by_] 105 (0, 0)) from ((heap_old_at _ _ _ (by simp)).trans (heap_new_at _ _ _ rfl)))
    have HBEX := Lib.hid (show ((wc.alloc (.cells #[] 105)).alloc (.cells #[.string k, .string room, .string by_] 105)).heap[wc.heap.size + 1]? = some (.cells #[.string k, .string room, .string by_] 105 (0, 0)) from (heap_new_at _ _ _ (by simp)))
    have b0 : (0 : Int) ≤ (i : Int) := by omega
    have b1 : (i : Int) ≤ (c0 : Int) := by omega
    have b3 : (i : Int) ≤ (l.length : Int) := by omega
    have b4 : (l.length : Int) ≤ (c0 : Int) := by omega
    refine wt_start (S := fun W => W.cell? ⟨w.heap.size, 2, none⟩ = some (.slice (some ⟨r, 0, none⟩) l.length c0)) 18 (by kernel_rfl) ⟨by kernel_rfl, by kernel_rfl, by kernel_rfl, by decide⟩ ?_
    intro HTK
    refine wt_take (i := 1) (v := ?_) HTK.out rfl (by decide) (by kernel_rfl) (by kernel_rfl) (fun _ _ _ h => h) (by exact ct0) (Or.inl ⟨by rfl, ?_⟩) ?_
    rotate_left
    · intro W hSw
      try dsimp only at hSw
      go_simp
      try (with_reducible rfl)
    try simp only [Act.put, List.setIfInBounds_toArray, List.set_cons_zero, List.set_cons_succ]
    refine wt_take (i := 3) (v := ?_) HTK.out rfl (by decide) (by kernel_rfl) (by kernel_rfl) (fun _ _ _ h => h) (by exact ct0) (Or.inl ⟨by rfl, ?_⟩) ?_
    rotate_left
    · intro W hSw
      try dsimp only at hSw
      go_simp
      try (with_reducible rfl)
    try simp only [Act.put, List.setIfInBounds_toArray, List.set_cons_zero, List.set_cons_succ]
    refine wt_take (i := 6) (v := ?_) HTK.out rfl (by decide) (by kernel_rfl) (by kernel_rfl) (fun _ _ _ h => h) (by exact ct0) (Or.inl ⟨by rfl, ?_⟩) ?_
    rotate_left
    · intro W hSw
      try dsimp only at hSw
      go_simp
      try (with_reducible rfl)
    try simp only [Act.put, List.setIfInBounds_toArray, List.set_cons_zero, List.set_cons_succ]
    refine wt_take (i := 7) (v := ?_) HTK.out rfl (by decide) (by kernel_rfl) (by kernel_rfl) (fun _ _ _ h => h) (by exact ct0) (Or.inl ⟨by rfl, ?_⟩) ?_
    rotate_left
    · intro W hSw
      try dsimp only at hSw
      go_simp
      try (with_reducible rfl)
    try simp only [Act.put, List.setIfInBounds_toArray, List.set_cons_zero, List.set_cons_succ]
    refine wt_take (i := 8) (v := ?_) HTK.out rfl (by decide) (by kernel_rfl) (by kernel_rfl) (fun _ _ _ h => h) (by exact ct0) (Or.inl ⟨by rfl, ?_⟩) ?_
    rotate_left
    · intro W hSw
      try dsimp only at hSw
      go_simp
      try (with_reducible rfl)
    try simp only [Act.put, List.setIfInBounds_toArray, List.set_cons_zero, List.set_cons_succ]
    refine wt_take (i := 9) (v := ?_) HTK.out rfl (by decide) (by kernel_rfl) (by kernel_rfl) (fun _ _ _ h => h) (by exact ct0) (Or.inl ⟨by rfl, ?_⟩) ?_
    rotate_left
    · intro W hSw
      try dsimp only at hSw
      go_simp
      try (with_reducible rfl)
    try simp only [Act.put, List.setIfInBounds_toArray, List.set_cons_zero, List.set_cons_succ]
    refine wt_take (i := 12) (v := ?_) HTK.out rfl (by decide) (by kernel_rfl) (by kernel_rfl) (fun _ _ _ h => h) (by exact ct0) (Or.inl ⟨by rfl, ?_⟩) ?_
    rotate_left
    · intro W hSw
      try dsimp only at hSw
      go_simp
      try (with_reducible rfl)
    try simp only [Act.put, List.setIfInBounds_toArray, List.set_cons_zero, List.set_cons_succ]
    refine wt_take (i := 14) (v := ?_) HTK.out rfl (by decide) (by kernel_rfl) (by kernel_rfl) (fun _ _ _ h => h) (by exact ct0) (Or.inl ⟨by rfl, ?_⟩) ?_
    rotate_left
    · intro W hSw
      try dsimp only at hSw
      go_simp
      try (with_reducible rfl)
    try simp only [Act.put, List.setIfInBounds_toArray, List.set_cons_zero, List.set_cons_succ]
    refine wt_take (i := 2) (v := ?_) HTK.out rfl (by decide) (by kernel_rfl) (by kernel_rfl) (fun _ _ _ h => h) (by exact ct0) (Or.inl ⟨by rfl, ?_⟩) ?_
    rotate_left
    · intro W hSw
      try dsimp only at hSw
      go_simp
      try (with_reducible rfl)
    try simp only [Act.put, List.setIfInBounds_toArray, List.set_cons_zero, List.set_cons_succ]
    refine wt_take (i := 13) (v := ?_) HTK.out rfl (by decide) (by kernel_rfl) (by kernel_rfl) (fun _ _ _ h => h) (by exact ct0) (Or.inl ⟨by rfl, ?_⟩) ?_
    rotate_left
    · intro W hSw
      try dsimp only at hSw
      go_simp
      try (with_reducible rfl)
    try simp only [Act.put, List.setIfInBounds_toArray, List.set_cons_zero, List.set_cons_succ]
    refine wt_take (i := 4) (v := ?_) HTK.out rfl (by decide) (by kernel_rfl) (by kernel_rfl) (fun _ _ _ h => h) (by exact ct0) (Or.inl ⟨by rfl, ?_⟩) ?_
    rotate_left
    · intro W hSw
      try dsimp only at hSw
      go_simp
      try (with_reducible rfl)
    try simp only [Act.put, List.setIfInBounds_toArray, List.set_cons_zero, List.set_cons_succ]
    refine wt_take (i := 15) (v := ?_) HTK.out rfl (by decide) (by kernel_rfl) (by kernel_rfl) (fun _ _ _ h => h) (by exact ct0) (Or.inl ⟨by rfl, ?_⟩) ?_
    rotate_left
    · intro W hSw
      try dsimp only at hSw
      go_simp
      try (with_reducible rfl)
    try simp only [Act.put, List.setIfInBounds_toArray, List.set_cons_zero, List.set_cons_succ]
    refine wt_ready (rs := [0, 10]) (by kernel_rfl) (by simp) ?_
    refine AllT.cons rfl (by decide) (fun K hK => ?_) ?_
    · go_simp
      refine hK.out _ _ (by exact cte) ?_
      clear hK K
      try simp only [Act.put, List.setIfInBounds_toArray, List.set_cons_zero, List.set_cons_succ]
      refine wt_ready (rs := [5, 10]) (by kernel_rfl) (by simp) ?_
      refine AllT.cons rfl (by decide) (fun K hK => ?_) ?_
      · refine step_append_src _ (by rfl) _ _ _ (by rfl) (w.heap.size + 1 + 1 + 1) 105 i0 _ 3 48 Tryz.underlying32 HIN.out HZ0.out HZ1.out HZ2.out rfl (by omega) _ 0 [] (by rfl) HOe.out _ i c0 ((rowsE l).take i) (by rfl) HSe.out (by unfold maxLen; omega) (by omega) (by simp; omega) ?_
        intro a1 cap1 w2 hown1 hgrow1 hat1
        try simp only [Nat.zero_add, List.nil_append] at hown1 hat1 ⊢
        have hob1 : ∀ j, (Value.slice a1 i cap1).ownBlock = some j → w.heap.size + 1 + 1 < j := by
          intro j hj
          rcases hat1 with h | h
          · rw [h] at hj; simp only [Value.ownBlock] at hj; injection hj with hj; omega
          · rw [h] at hj; injection hj with hj; rw [← hj]; simp; omega
        have hl2 : Laid3 w server most (some ⟨r, 0, none⟩) l.length c0 w2 := HLe.out.drew.grown hgrow1 (fun j hj => by simp only [Value.ownBlock] at hj; injection hj with hj; omega)
        have hr2 : Rw w2 105 r c0 3 (rowsE l) := HRe.out.same (hgrow1.block _ (by simp; omega) (by simp only [Value.ownBlock]; intro he; injection he with he; omega))
        have ct2 : w2.cell? ⟨w.heap.size, 2, none⟩ = some (.slice (some ⟨r, 0, none⟩) l.length c0) := cell_at hl2.t rfl
        have ft2 : w2.frozen? ⟨w.heap.size, 2, none⟩ = false := frozen_at hl2.t
        have hown1' := hown1.alloc (.cells #[.string k, .string room, .string by_] 105)
        have hl2' : Laid3 w server most (some ⟨r, 0, none⟩) l.length c0 (w2.alloc (.cells #[.string k, .string room, .string by_] 105)) := hl2.alloc3 _
        have hx2' : Src (w2.alloc (.cells #[.string k, .string room, .string by_] 105)) 3 (some ⟨w2.heap.size, 0, none⟩) 1 1 [[.string k, .string room, .string by_]] := HXC.out _ _ (heap_new_at _ _ _ rfl)
        have ct2' : (w2.alloc (.cells #[.string k, .string room, .string by_] 105)).cell? ⟨w.heap.size, 2, none⟩ = some (.slice (some ⟨r, 0, none⟩) l.length c0) := cell_at hl2'.t rfl
        have ft2' : (w2.alloc (.cells #[.string k, .string room, .string by_] 105)).frozen? ⟨w.heap.size, 2, none⟩ = false := frozen_at hl2'.t
        have hr2' : Rw (w2.alloc (.cells #[.string k, .string room, .string by_] 105)) 105 r c0 3 (rowsE l) := hr2.same (heap_old_at _ _ _ hr2.lt)
        have HOWN := Lib.hid hown1'
        have HL2 := Lib.hid hl2'
        have HX2 := Lib.hid hx2'
        have HR2 := Lib.hid hr2'
        clear hown1 hgrow1 hat1 hl2 hx2' hr2 hown1' hl2' hr2'
        refine hK.out _ _ (by exact ct2) ?_
        clear hK K
        try simp only [Act.put, List.setIfInBounds_toArray, List.set_cons_zero, List.set_cons_succ]
        refine wt_ready (rs := [10]) (by kernel_rfl) (by simp) ?_
        refine AllT.cons rfl (by decide) (fun K hK => ?_) ?_
        · go_simp
          refine hK.out _ _ (by exact ct2') ?_
          clear hK K
          try simp only [Act.put, List.setIfInBounds_toArray, List.set_cons_zero, List.set_cons_succ]
          refine wt_ready (rs := [11]) (by kernel_rfl) (by simp) ?_
          refine AllT.cons rfl (by decide) (fun K hK => ?_) ?_
          · refine step_append_src _ (by rfl) _ _ _ (by rfl) (w.heap.size + 1 + 1 + 1) 105 i0 _ 3 48 Tryz.underlying32 HIN.out HZ0.out HZ1.out HZ2.out rfl (by omega) _ _ _ (by rfl) HOWN.out _ 1 1 [[.string k, .string room, .string by_]] (by rfl) HX2.out (by unfold maxLen; omega) (by omega) (by have := blk_lt HL2.out.e; omega) ?_
            intro a2 cap2 w3 hown2 hgrow2 hat2
            try simp only [Nat.zero_add] at hown2 hat2 ⊢
            have hob2 : ∀ j, (Value.slice a2 (i + 1) cap2).ownBlock = some j → w.heap.size + 1 + 1 < j := by
              intro j hj
              rcases hat2 with h | h
              · rw [h] at hj; exact hob1 j hj
              · rw [h] at hj; injection hj with hj; have := blk_lt HL2.out.e; omega
            have hl3 : Laid3 w server most (some ⟨r, 0, none⟩) l.length c0 w3 := HL2.out.grown hgrow2 hob1
            have ct3 : w3.cell? ⟨w.heap.size, 2, none⟩ = some (.slice (some ⟨r, 0, none⟩) l.length c0) := cell_at hl3.t rfl
            have ft3 : w3.frozen? ⟨w.heap.size, 2, none⟩ = false := frozen_at hl3.t
            have hr3 : Rw w3 105 r c0 3 (rowsE l) := HR2.out.same (hgrow2.block _ HR2.out.lt (fun he => by have := hob1 _ he.symm; omega))
            have hx3 := src_rest hr3 i (by omega)
            have HOWN2 := Lib.hid hown2
            have HL3 := Lib.hid hl3
            have HX3 := Lib.hid hx3
            clear hown2 hgrow2 hat2 hl3 hx3
            refine hK.out _ _ (by exact ct3) ?_
            clear hK K
            try simp only [Act.put, List.setIfInBounds_toArray, List.set_cons_zero, List.set_cons_succ]
            refine wt_ready (rs := [16]) (by kernel_rfl) (by simp) ?_
            refine AllT.cons rfl (by decide) (fun K hK => ?_) ?_
            · refine step_append_src _ (by rfl) _ _ _ (by rfl) (w.heap.size + 1 + 1 + 1) 105 i0 _ 3 48 Tryz.underlying32 HIN.out HZ0.out HZ1.out HZ2.out rfl (by omega) _ _ _ (by rfl) HOWN2.out _ _ _ ((rowsE l).drop i) (by rfl) HX3.out (by unfold maxLen; omega) (by omega) (by have := blk_lt HL3.out.e; omega) ?_
              intro a3 cap3 w4 hown3 hgrow3 hat3
              have hl4 : Laid3 w server most (some ⟨r, 0, none⟩) l.length c0 w4 := HL3.out.grown hgrow3 hob2
              have ft4 : w4.frozen? ⟨w.heap.size, 2, none⟩ = false := frozen_at hl4.t
              have ct4 : w4.cell? ⟨w.heap.size, 2, none⟩ = some (.slice (some ⟨r, 0, none⟩) l.length c0) := cell_at hl4.t rfl
              have HOWN3 := Lib.hid hown3
              have HL4 := Lib.hid hl4
              clear hown3 hgrow3 hat3 hl4
              refine hK.out _ _ (by exact ct4) ?_
              clear hK K
              try simp only [Act.put, List.setIfInBounds_toArray, List.set_cons_zero, List.set_cons_succ]
              refine wt_take (i := 17) (v := ?_) HTK.out rfl (by decide) (by kernel_rfl) (by kernel_rfl) (fun _ _ _ h => h) (by exact ct4) (Or.inl ⟨by rfl, ?_⟩) ?_
              rotate_left
              · intro W hSw
                try dsimp only at hSw
                go_simp
                try (with_reducible rfl)
              try simp only [Act.put, List.setIfInBounds_toArray, List.set_cons_zero, List.set_cons_succ]
              refine wt_last (k := 18) (by kernel_rfl) (by kernel_rfl) (by decide) rfl (fun K hK => ?_)
              go_simp
              refine hK.out _ _ ?_
              clear hK K
              try simp only [Act.put, List.setIfInBounds_toArray, List.set_cons_zero, List.set_cons_succ]
              have hl5 := HL4.out.put a3 (i + 1 + (l.length - i)) cap3
              obtain ⟨s', hs', hro⟩ := RowOf.of_own (l := rowsE (insR ⟨k, room, by_⟩ l)) (by rw [insR_flat ⟨k, room, by_⟩ HPL.out]; exact HOWN3.out) (fun y hy => by obtain ⟨z, _, rfl⟩ := List.mem_map.1 hy; rfl) (by decide) (by simp [insR_length] <;> omega)
              obtain ⟨sa, sn, sc⟩ := s'
              simp only [Sl.val] at hs'
              injection hs' with hs1 hs2 hs3
              subst hs1 hs2 hs3
              have HL5 := Lib.hid hl5
              have HRO := Lib.hid hro
              clear hl5 hro
              generalize (if c0 = i then some (⟨r, 0, none⟩ : Addr) else some ⟨r, i * 3, none⟩) = aw
              go_wp2_with fail
              go_meet
              exact ⟨⟨a3, _, cap3⟩, HL5.out, (HRO.out.same (by simp [World.setCell]) (fun g hg hP => Below.heap_setCell _ _ _ _ (by show g ≠ w.heap.size; omega))).mono (fun g _ h => by omega)⟩
            exact AllT.nil
          exact AllT.nil
        exact AllT.nil
      refine AllT.cons rfl (by decide) (fun K hK => ?_) ?_
      · go_simp
        refine hK.out _ _ (by exact ctex) ?_
        clear hK K
        try simp only [Act.put, List.setIfInBounds_toArray, List.set_cons_zero, List.set_cons_succ]
        refine wt_ready (rs := [5]) (by kernel_rfl) (by simp) ?_
        refine AllT.cons rfl (by decide) (fun K hK => ?_) ?_
        · refine step_append_src _ (by rfl) _ _ _ (by rfl) (w.heap.size + 1 + 1 + 1) 105 i0 _ 3 48 Tryz.underlying32 HIN.out HZ0.out HZ1.out HZ2.out rfl (by omega) _ 0 [] (by rfl) HOex.out _ i c0 ((rowsE l).take i) (by rfl) HSex.out (by unfold maxLen; omega) (by omega) (by simp; omega) ?_
          intro a1 cap1 w2 hown1 hgrow1 hat1
          try simp only [Nat.zero_add, List.nil_append] at hown1 hat1 ⊢
          have hob1 : ∀ j, (Value.slice a1 i cap1).ownBlock = some j → w.heap.size + 1 + 1 < j := by
            intro j hj
            rcases hat1 with h | h
            · rw [h] at hj; simp only [Value.ownBlock] at hj; injection hj with hj; omega
            · rw [h] at hj; injection hj with hj; rw [← hj]; simp; omega
          have hl2 : Laid3 w server most (some ⟨r, 0, none⟩) l.length c0 w2 := HLex.out.drew.grown hgrow1 (fun j hj => by simp only [Value.ownBlock] at hj; injection hj with hj; omega)
          have hr2 : Rw w2 105 r c0 3 (rowsE l) := HRex.out.same (hgrow1.block _ (by simp; omega) (by simp only [Value.ownBlock]; intro he; injection he with he; omega))
          have ct2 : w2.cell? ⟨w.heap.size, 2, none⟩ = some (.slice (some ⟨r, 0, none⟩) l.length c0) := cell_at hl2.t rfl
          have ft2 : w2.frozen? ⟨w.heap.size, 2, none⟩ = false := frozen_at hl2.t
          have hx2' : Src w2 3 (some ⟨wc.heap.size + 1, 0, none⟩) 1 1 [[.string k, .string room, .string by_]] := HXC.out _ _ ((hgrow1.block _ (by simp <;> omega) (by simp only [Value.ownBlock]; intro he; injection he with he; omega)).trans HBEX.out)
          have HOWN := Lib.hid hown1
          have HL2 := Lib.hid hl2
          have HX2 := Lib.hid hx2'
          have HR2 := Lib.hid hr2
          clear hown1 hgrow1 hat1 hl2 hx2' hr2
          refine hK.out _ _ (by exact ct2) ?_
          clear hK K
          try simp only [Act.put, List.setIfInBounds_toArray, List.set_cons_zero, List.set_cons_succ]
          refine wt_ready (rs := [11]) (by kernel_rfl) (by simp) ?_
          refine AllT.cons rfl (by decide) (fun K hK => ?_) ?_
          · refine step_append_src _ (by rfl) _ _ _ (by rfl) (w.heap.size + 1 + 1 + 1) 105 i0 _ 3 48 Tryz.underlying32 HIN.out HZ0.out HZ1.out HZ2.out rfl (by omega) _ _ _ (by rfl) HOWN.out _ 1 1 [[.string k, .string room, .string by_]] (by rfl) HX2.out (by unfold maxLen; omega) (by omega) (by have := blk_lt HL2.out.e; omega) ?_
            intro a2 cap2 w3 hown2 hgrow2 hat2
            try simp only [Nat.zero_add] at hown2 hat2 ⊢
            have hob2 : ∀ j, (Value.slice a2 (i + 1) cap2).ownBlock = some j → w.heap.size + 1 + 1 < j := by
              intro j hj
              rcases hat2 with h | h
              · rw [h] at hj; exact hob1 j hj
              · rw [h] at hj; injection hj with hj; have := blk_lt HL2.out.e; omega
            have hl3 : Laid3 w server most (some ⟨r, 0, none⟩) l.length c0 w3 := HL2.out.grown hgrow2 hob1
            have ct3 : w3.cell? ⟨w.heap.size, 2, none⟩ = some (.slice (some ⟨r, 0, none⟩) l.length c0) := cell_at hl3.t rfl
            have ft3 : w3.frozen? ⟨w.heap.size, 2, none⟩ = false := frozen_at hl3.t
            have hr3 : Rw w3 105 r c0 3 (rowsE l) := HR2.out.same (hgrow2.block _ HR2.out.lt (fun he => by have := hob1 _ he.symm; omega))
            have hx3 := src_rest hr3 i (by omega)
            have HOWN2 := Lib.hid hown2
            have HL3 := Lib.hid hl3
            have HX3 := Lib.hid hx3
            clear hown2 hgrow2 hat2 hl3 hx3
            refine hK.out _ _ (by exact ct3) ?_
            clear hK K
            try simp only [Act.put, List.setIfInBounds_toArray, List.set_cons_zero, List.set_cons_succ]
            refine wt_ready (rs := [16]) (by kernel_rfl) (by simp) ?_
            refine AllT.cons rfl (by decide) (fun K hK => ?_) ?_
            · refine step_append_src _ (by rfl) _ _ _ (by rfl) (w.heap.size + 1 + 1 + 1) 105 i0 _ 3 48 Tryz.underlying32 HIN.out HZ0.out HZ1.out HZ2.out rfl (by omega) _ _ _ (by rfl) HOWN2.out _ _ _ ((rowsE l).drop i) (by rfl) HX3.out (by unfold maxLen; omega) (by omega) (by have := blk_lt HL3.out.e; omega) ?_
              intro a3 cap3 w4 hown3 hgrow3 hat3
              have hl4 : Laid3 w server most (some ⟨r, 0, none⟩) l.length c0 w4 := HL3.out.grown hgrow3 hob2
              have ft4 : w4.frozen? ⟨w.heap.size, 2, none⟩ = false := frozen_at hl4.t
              have ct4 : w4.cell? ⟨w.heap.size, 2, none⟩ = some (.slice (some ⟨r, 0, none⟩) l.length c0) := cell_at hl4.t rfl
              have HOWN3 := Lib.hid hown3
              have HL4 := Lib.hid hl4
              clear hown3 hgrow3 hat3 hl4
              refine hK.out _ _ (by exact ct4) ?_
              clear hK K
              try simp only [Act.put, List.setIfInBounds_toArray, List.set_cons_zero, List.set_cons_succ]
              refine wt_take (i := 17) (v := ?_) HTK.out rfl (by decide) (by kernel_rfl) (by kernel_rfl) (fun _ _ _ h => h) (by exact ct4) (Or.inl ⟨by rfl, ?_⟩) ?_
              rotate_left
              · intro W hSw
                try dsimp only at hSw
                go_simp
                try (with_reducible rfl)
              try simp only [Act.put, List.setIfInBounds_toArray, List.set_cons_zero, List.set_cons_succ]
              refine wt_last (k := 18) (by kernel_rfl) (by kernel_rfl) (by decide) rfl (fun K hK => ?_)
              go_simp
              refine hK.out _ _ ?_
              clear hK K
              try simp only [Act.put, List.setIfInBounds_toArray, List.set_cons_zero, List.set_cons_succ]
              have hl5 := HL4.out.put a3 (i + 1 + (l.length - i)) cap3
              obtain ⟨s', hs', hro⟩ := RowOf.of_own (l := rowsE (insR ⟨k, room, by_⟩ l)) (by rw [insR_flat ⟨k, room, by_⟩ HPL.out]; exact HOWN3.out) (fun y hy => by obtain ⟨z, _, rfl⟩ := List.mem_map.1 hy; rfl) (by decide) (by simp [insR_length] <;> omega)
              obtain ⟨sa, sn, sc⟩ := s'
              simp only [Sl.val] at hs'
              injection hs' with hs1 hs2 hs3
              subst hs1 hs2 hs3
              have HL5 := Lib.hid hl5
              have HRO := Lib.hid hro
              clear hl5 hro
              generalize (if c0 = i then some (⟨r, 0, none⟩ : Addr) else some ⟨r, i * 3, none⟩) = aw
              go_wp2_with fail
              go_meet
              exact ⟨⟨a3, _, cap3⟩, HL5.out, (HRO.out.same (by simp [World.setCell]) (fun g hg hP => Below.heap_setCell _ _ _ _ (by show g ≠ w.heap.size; omega))).mono (fun g _ h => by omega)⟩
            exact AllT.nil
          exact AllT.nil
        exact AllT.nil
      exact AllT.nil
    refine AllT.cons rfl (by decide) (fun K hK => ?_) ?_
    · go_simp
      refine hK.out _ _ (by exact ctx) ?_
      clear hK K
      try simp only [Act.put, List.setIfInBounds_toArray, List.set_cons_zero, List.set_cons_succ]
      refine wt_ready (rs := [0]) (by kernel_rfl) (by simp) ?_
      refine AllT.cons rfl (by decide) (fun K hK => ?_) ?_
      · go_simp
        refine hK.out _ _ (by exact ctxe) ?_
        clear hK K
        try simp only [Act.put, List.setIfInBounds_toArray, List.set_cons_zero, List.set_cons_succ]
        refine wt_ready (rs := [5]) (by kernel_rfl) (by simp) ?_
        refine AllT.cons rfl (by decide) (fun K hK => ?_) ?_
        · refine step_append_src _ (by rfl) _ _ _ (by rfl) (w.heap.size + 1 + 1 + 1) 105 i0 _ 3 48 Tryz.underlying32 HIN.out HZ0.out HZ1.out HZ2.out rfl (by omega) _ 0 [] (by rfl) HOxe.out _ i c0 ((rowsE l).take i) (by rfl) HSxe.out (by unfold maxLen; omega) (by omega) (by simp; omega) ?_
          intro a1 cap1 w2 hown1 hgrow1 hat1
          try simp only [Nat.zero_add, List.nil_append] at hown1 hat1 ⊢
          have hob1 : ∀ j, (Value.slice a1 i cap1).ownBlock = some j → w.heap.size + 1 + 1 < j := by
            intro j hj
            rcases hat1 with h | h
            · rw [h] at hj; simp only [Value.ownBlock] at hj; injection hj with hj; omega
            · rw [h] at hj; injection hj with hj; rw [← hj]; simp; omega
          have hl2 : Laid3 w server most (some ⟨r, 0, none⟩) l.length c0 w2 := HLxe.out.drew.grown hgrow1 (fun j hj => by simp only [Value.ownBlock] at hj; injection hj with hj; omega)
          have hr2 : Rw w2 105 r c0 3 (rowsE l) := HRxe.out.same (hgrow1.block _ (by simp; omega) (by simp only [Value.ownBlock]; intro he; injection he with he; omega))
          have ct2 : w2.cell? ⟨w.heap.size, 2, none⟩ = some (.slice (some ⟨r, 0, none⟩) l.length c0) := cell_at hl2.t rfl
          have ft2 : w2.frozen? ⟨w.heap.size, 2, none⟩ = false := frozen_at hl2.t
          have hx2' : Src w2 3 (some ⟨wc.heap.size, 0, none⟩) 1 1 [[.string k, .string room, .string by_]] := HXC.out _ _ ((hgrow1.block _ (by simp <;> omega) (by simp only [Value.ownBlock]; intro he; injection he with he; omega)).trans HBXE.out)
          have HOWN := Lib.hid hown1
          have HL2 := Lib.hid hl2
          have HX2 := Lib.hid hx2'
          have HR2 := Lib.hid hr2
          clear hown1 hgrow1 hat1 hl2 hx2' hr2
          refine hK.out _ _ (by exact ct2) ?_
          clear hK K
          try simp only [Act.put, List.setIfInBounds_toArray, List.set_cons_zero, List.set_cons_succ]
          refine wt_ready (rs := [11]) (by kernel_rfl) (by simp) ?_
          refine AllT.cons rfl (by decide) (fun K hK => ?_) ?_
          · refine step_append_src _ (by rfl) _ _ _ (by rfl) (w.heap.size + 1 + 1 + 1) 105 i0 _ 3 48 Tryz.underlying32 HIN.out HZ0.out HZ1.out HZ2.out rfl (by omega) _ _ _ (by rfl) HOWN.out _ 1 1 [[.string k, .string room, .string by_]] (by rfl) HX2.out (by unfold maxLen; omega) (by omega) (by have := blk_lt HL2.out.e; omega) ?_
            intro a2 cap2 w3 hown2 hgrow2 hat2
            try simp only [Nat.zero_add] at hown2 hat2 ⊢
            have hob2 : ∀ j, (Value.slice a2 (i + 1) cap2).ownBlock = some j → w.heap.size + 1 + 1 < j := by
              intro j hj
              rcases hat2 with h | h
              · rw [h] at hj; exact hob1 j hj
              · rw [h] at hj; injection hj with hj; have := blk_lt HL2.out.e; omega
            have hl3 : Laid3 w server most (some ⟨r, 0, none⟩) l.length c0 w3 := HL2.out.grown hgrow2 hob1
            have ct3 : w3.cell? ⟨w.heap.size, 2, none⟩ = some (.slice (some ⟨r, 0, none⟩) l.length c0) := cell_at hl3.t rfl
            have ft3 : w3.frozen? ⟨w.heap.size, 2, none⟩ = false := frozen_at hl3.t
            have hr3 : Rw w3 105 r c0 3 (rowsE l) := HR2.out.same (hgrow2.block _ HR2.out.lt (fun he => by have := hob1 _ he.symm; omega))
            have hx3 := src_rest hr3 i (by omega)
            have HOWN2 := Lib.hid hown2
            have HL3 := Lib.hid hl3
            have HX3 := Lib.hid hx3
            clear hown2 hgrow2 hat2 hl3 hx3
            refine hK.out _ _ (by exact ct3) ?_
            clear hK K
            try simp only [Act.put, List.setIfInBounds_toArray, List.set_cons_zero, List.set_cons_succ]
            refine wt_ready (rs := [16]) (by kernel_rfl) (by simp) ?_
            refine AllT.cons rfl (by decide) (fun K hK => ?_) ?_
            · refine step_append_src _ (by rfl) _ _ _ (by rfl) (w.heap.size + 1 + 1 + 1) 105 i0 _ 3 48 Tryz.underlying32 HIN.out HZ0.out HZ1.out HZ2.out rfl (by omega) _ _ _ (by rfl) HOWN2.out _ _ _ ((rowsE l).drop i) (by rfl) HX3.out (by unfold maxLen; omega) (by omega) (by have := blk_lt HL3.out.e; omega) ?_
              intro a3 cap3 w4 hown3 hgrow3 hat3
              have hl4 : Laid3 w server most (some ⟨r, 0, none⟩) l.length c0 w4 := HL3.out.grown hgrow3 hob2
              have ft4 : w4.frozen? ⟨w.heap.size, 2, none⟩ = false := frozen_at hl4.t
              have ct4 : w4.cell? ⟨w.heap.size, 2, none⟩ = some (.slice (some ⟨r, 0, none⟩) l.length c0) := cell_at hl4.t rfl
              have HOWN3 := Lib.hid hown3
              have HL4 := Lib.hid hl4
              clear hown3 hgrow3 hat3 hl4
              refine hK.out _ _ (by exact ct4) ?_
              clear hK K
              try simp only [Act.put, List.setIfInBounds_toArray, List.set_cons_zero, List.set_cons_succ]
              refine wt_take (i := 17) (v := ?_) HTK.out rfl (by decide) (by kernel_rfl) (by kernel_rfl) (fun _ _ _ h => h) (by exact ct4) (Or.inl ⟨by rfl, ?_⟩) ?_
              rotate_left
              · intro W hSw
                try dsimp only at hSw
                go_simp
                try (with_reducible rfl)
              try simp only [Act.put, List.setIfInBounds_toArray, List.set_cons_zero, List.set_cons_succ]
              refine wt_last (k := 18) (by kernel_rfl) (by kernel_rfl) (by decide) rfl (fun K hK => ?_)
              go_simp
              refine hK.out _ _ ?_
              clear hK K
              try simp only [Act.put, List.setIfInBounds_toArray, List.set_cons_zero, List.set_cons_succ]
              have hl5 := HL4.out.put a3 (i + 1 + (l.length - i)) cap3
              obtain ⟨s', hs', hro⟩ := RowOf.of_own (l := rowsE (insR ⟨k, room, by_⟩ l)) (by rw [insR_flat ⟨k, room, by_⟩ HPL.out]; exact HOWN3.out) (fun y hy => by obtain ⟨z, _, rfl⟩ := List.mem_map.1 hy; rfl) (by decide) (by simp [insR_length] <;> omega)
              obtain ⟨sa, sn, sc⟩ := s'
              simp only [Sl.val] at hs'
              injection hs' with hs1 hs2 hs3
              subst hs1 hs2 hs3
              have HL5 := Lib.hid hl5
              have HRO := Lib.hid hro
              clear hl5 hro
              generalize (if c0 = i then some (⟨r, 0, none⟩ : Addr) else some ⟨r, i * 3, none⟩) = aw
              go_wp2_with fail
              go_meet
              exact ⟨⟨a3, _, cap3⟩, HL5.out, (HRO.out.same (by simp [World.setCell]) (fun g hg hP => Below.heap_setCell _ _ _ _ (by show g ≠ w.heap.size; omega))).mono (fun g _ h => by omega)⟩
            exact AllT.nil
          exact AllT.nil
        exact AllT.nil
      exact AllT.nil
    exact AllT.nil
  case rest =>
    clear t0 t1 t2 r0 r1 r2 e0 e1 e2 rz ez tz
    obtain ⟨⟨sa, sn, sc⟩, hl, hro⟩ := hcut
    have t0 := cell_at (j := 0) hl.t rfl
    have t1 := cell_at (j := 1) hl.t rfl
    have t2 := cell_at (j := 2) hl.t rfl
    have r0 := cell_at (j := 0) hl.r rfl
    have r1 := cell_at (j := 1) hl.r rfl
    have r2 := cell_at (j := 2) hl.r rfl
    have e0 := cell_at (j := 0) hl.e rfl
    have e1 := cell_at (j := 1) hl.e rfl
    have e2 := cell_at (j := 2) hl.e rfl
    have rz : ∀ j, wc.frozen? ⟨w.heap.size + 1, j, none⟩ = false := fun j => frozen_at hl.r
    have ez : ∀ j, wc.frozen? ⟨w.heap.size + 1 + 1, j, none⟩ = false := fun j => frozen_at hl.e
    have HL4 := Lib.hid hl
    have HRO := Lib.hid hro
    clear hl hro
    go_wp2_with fail
    go_region_law (go_simp; go_at_call 31; refine (rnone_calls _).mono ?_; rintro e wv ⟨rfl, hb⟩
                   have hl : Laid3 w server most sa sn sc wv := by first | exact HL4.out.drew.next hb | exact HL4.out.next hb
                   have hrv : RowOf wv (fun g => w.heap.size + 1 + 1 < g) 105 3 ⟨sa, sn, sc⟩ (rowsE (insR ⟨k, room, by_⟩ l)) := HRO.out.same hb.size (fun g hg _ => hb.block g hg)
                   have t0 := cell_at (j := 0) hl.t rfl
                   have t1 := cell_at (j := 1) hl.t rfl
                   have t2 := cell_at (j := 2) hl.t rfl
                   have r0 := cell_at (j := 0) hl.r rfl
                   have r1 := cell_at (j := 1) hl.r rfl
                   have r2 := cell_at (j := 2) hl.r rfl
                   have e0 := cell_at (j := 0) hl.e rfl
                   have e1 := cell_at (j := 1) hl.e rfl
                   have e2 := cell_at (j := 2) hl.e rfl
                   have rz : ∀ j, wv.frozen? ⟨w.heap.size + 1, j, none⟩ = false := fun j => frozen_at hl.r
                   have ez : ∀ j, wv.frozen? ⟨w.heap.size + 1 + 1, j, none⟩ = false := fun j => frozen_at hl.e
                   have HLV := Lib.hid hl
                   have HRV := Lib.hid hrv
                   clear hl hb hrv
                   simp only [erV, eCells])
    all_goals (go_wp2_with fail)
    all_goals first
    | (refine bodyPost_ret (res_TE rfl _ _ (w.heap.size + 1) (w.heap.size + 1 + 1) #[.string server, .int .i64 most, .slice sa sn sc] #[.int .i64 0, .int .i64 (-1), .string ⟨#[]⟩] rfl (HLV.out.fin _ _ _ _ _ _).1 rfl rfl (HLV.out.fin _ _ _ _ _ _).2.1 rfl) rfl ?_
       exact ⟨⟨sa, sn, sc⟩, rfl, (HRV.out.same (by simp [World.setCell]) (fun g hg hP => (row3_other (by omega)).trans (row3_other (by omega)))).mono (fun g _ h => by omega), (HLV.out.fin _ _ _ _ _ _).2.2⟩)
    | (refine bodyPost_ret (res_TE rfl _ _ (w.heap.size + 1) (w.heap.size + 1 + 1) #[.string server, .int .i64 most, .slice sa sn sc] #[.int .i64 0, .int .i64 (-1), .string ⟨#[]⟩] rfl (HLV.out.fin' _ _ _ _ _ _).1 rfl rfl (HLV.out.fin' _ _ _ _ _ _).2.1 rfl) rfl ?_
       exact ⟨⟨sa, sn, sc⟩, rfl, (HRV.out.same (by simp [World.setCell]) (fun g hg hP => (row3_other (by omega)).trans (row3_other (by omega)))).mono (fun g _ h => by omega), (HLV.out.fin' _ _ _ _ _ _).2.2⟩)
end Go.Proofs.YtgnoaeldmpbjmaaGreatDoor
