/- rising; what a change that may be made gives. -/
import Derived.Test.YtiehdfokcnphdaaGreatDoorCg
import Derived.Test.YtiehdfokcnphdaaGreatDoorPz
import Derived.Test.YtiehdfokcnphdaaGreatDoorPx
import Derived.ChangeMaps
set_option linter.unusedVariables false
set_option linter.unusedSimpArgs false
namespace Go.Proofs.YtiehdfokcnphdaaGreatDoor
open Go.RowKit Go.Shelf Go.Sort

theorem listE_none {b : ByteArray} {p : Int} {u : Bool} {l1 l2 ys : List Nm} (h : listE b p u l1 l2 ys = none) (hp : ys.Perm (l1 ++ l2)) : ∀ z ∈ l1 ++ l2, deniedN b p u l1 l2 z.name = false := by
  intro z hz
  unfold listE at h
  rw [Option.map_eq_none_iff, List.find?_eq_none] at h
  have := h z (hp.mem_iff.2 hz)
  simpa using this
theorem pt_num {b : ByteArray} {p : Int} {x y : Lv} {ex ux ey uy : List Nm} {pt : Pt} {j : Nat} (h : PtE b p x y ex ux ey uy pt none) (hj : pt.num = some j) : numN (numAt x j) (numAt y j) p = false := by
  unfold PtE at h
  rw [hj] at h
  cases hn : numN (numAt x j) (numAt y j) p with
  | false => rfl
  | true => simp [hn] at h
theorem pt_lst {b : ByteArray} {p : Int} {x y : Lv} {ex ux ey uy : List Nm} {pt : Pt} {j : Nat} (h : PtE b p x y ex ux ey uy pt none) (hn : pt.num = none) (hj : pt.lst = some j) : ∀ z ∈ (if j = 8 then ux else ex) ++ (if j = 8 then uy else ey), deniedN b p (decide (j = 8)) (if j = 8 then ux else ex) (if j = 8 then uy else ey) z.name = false := by
  unfold PtE at h
  rw [hn, hj] at h
  obtain ⟨ys, hp, _, he⟩ := h
  exact listE_none (by simpa using he.symm) hp
/-- No error: nothing of the change is denied. -/
theorem ch_ok {b : ByteArray} {x y : L9} {se su te tu : Sl} {ex ux ey uy : List Nm} (h : ChE b ((findN ux b).getD (realLv x se su).user) (realLv x se su) (realLv y te tu) ex ux ey uy none) : ChOk b x y ex ux ey uy := by
  have hall : ∀ pt ∈ pts, PtE b (userN ux x.n6 b) (realLv x se su) (realLv y te tu) ex ux ey uy pt none := by
    rcases h with ⟨_, h⟩ | ⟨k, pt, e, _, _, _, hne, he⟩
    · exact h
    · exact absurd he.symm hne
  refine ⟨fun a c hac => ?_, ?_, ?_⟩
  · simp only [List.mem_cons, List.not_mem_nil, or_false, Prod.mk.injEq] at hac
    rcases hac with ⟨rfl, rfl⟩ | ⟨rfl, rfl⟩ | ⟨rfl, rfl⟩ | ⟨rfl, rfl⟩ | ⟨rfl, rfl⟩ | ⟨rfl, rfl⟩ | ⟨rfl, rfl⟩
    · exact pt_num (j := 0) (hall (pts[0]'(by decide)) (List.getElem_mem _)) rfl
    · exact pt_num (j := 1) (hall (pts[4]'(by decide)) (List.getElem_mem _)) rfl
    · exact pt_num (j := 2) (hall (pts[5]'(by decide)) (List.getElem_mem _)) rfl
    · exact pt_num (j := 3) (hall (pts[3]'(by decide)) (List.getElem_mem _)) rfl
    · exact pt_num (j := 4) (hall (pts[6]'(by decide)) (List.getElem_mem _)) rfl
    · exact pt_num (j := 5) (hall (pts[2]'(by decide)) (List.getElem_mem _)) rfl
    · exact pt_num (j := 6) (hall (pts[8]'(by decide)) (List.getElem_mem _)) rfl
  · exact pt_lst (j := 7) (hall (pts[1]'(by decide)) (List.getElem_mem _)) rfl rfl
  · exact pt_lst (j := 8) (hall (pts[7]'(by decide)) (List.getElem_mem _)) rfl rfl
theorem less_total {a b : ByteArray} (h1 : Op.bytesLess a.toList b.toList = false) (h2 : (a.toList == b.toList) = false) : Op.bytesLess b.toList a.toList = true := by
  rw [less_ltStr, ← before_ltStr] at *
  have hne : (Lit.string a.toList) ≠ Lit.string b.toList := fun e => by
    injection e with e
    rw [e] at h2
    simp at h2
  rcases ChangeMaps.before_total ⟨_, rfl⟩ ⟨_, rfl⟩ hne with h | h
  · rw [show (Lit.string a.toList).before (Lit.string b.toList) = bytesBefore a.toList b.toList from rfl, h1] at h
    cases h
  · exact h
def SomeRise (l : List Nm) (e : Ending) : Prop := ∃ b : Bool, e = .returned (.bool b) ∧ (b = true → RiseN l)
set_option maxRecDepth 100000 in
set_option maxHeartbeats 2000000 in
theorem rising_calls (w : World) (a : Option Addr) (c : Nat) (l : List Nm) (h : InN w a l.length l) : Calls Tryz.prog 6 #[.slice a l.length c] w fun e w' => SomeRise l e ∧ Below w.heap.size w w' := by
  have hlen := h.2.1
  have HIN := Lib.hid h
  clear h
  go_enter Tryz.func6, Tryz.ntmps6
  go_wp2_with fail
  go_loopw [6] (fun i wr => ∃ k : Nat, k ≤ l.length ∧ i = .int .i64 k ∧ (∀ (j : Nat) (x y : Nm), j + 1 < k → l[j]? = some x → l[j + 1]? = some y → Op.bytesLess x.name.toList y.name.toList = true) ∧ Below w.heap.size w wr) (fun i _ => l.length - (intOf i).toNat)
  case atStart => exact ⟨0, by omega, rfl, fun j x y h => absurd h (by omega), Below.refl _ _⟩
  case round =>
    obtain ⟨k, hk, rfl, hpre, hb⟩ := hrel
    have HPRE := Lib.hid hpre
    have HB := Lib.hid hb
    by_cases hlt : k < l.length
    · obtain ⟨ad, hla, hadl, hcell⟩ := HIN.out.2.2 (by omega)
      have hy : l[k]? = some l[k] := List.getElem?_eq_getElem hlt
      generalize l[k] = y at hy
      have HY := Lib.hid hy
      have c0 := (hb.cell (p := ad.add (k * 2)) (by rw [block_add]; exact hadl)).trans (hcell k y hy).1
      have hadr : ad.block < wr.heap.size := Nat.lt_of_lt_of_le hadl hb.size
      rw [hla]
      rcases Nat.eq_zero_or_pos k with rfl | hkp
      · have HN := Lib.hid (show ∀ (j : Nat) (x y : Nm), j + 1 < 1 → l[j]? = some x → l[j + 1]? = some y → Op.bytesLess x.name.toList y.name.toList = true from fun j x y h => absurd h (by omega))
        clear hpre hb hcell hy
        go_upto_region 4 with fail
        go_quiet (fail)
        go_wp2_with fail
        exact ⟨⟨1, by omega, by first | rfl | go_num, HN.out, below_drewN' HB.out _⟩, by simp [intOf]; omega⟩
      · obtain ⟨j, rfl⟩ : ∃ j, k = j + 1 := ⟨k - 1, by omega⟩
        have hx : l[j]? = some (l[j]'(by omega)) := List.getElem?_eq_getElem _
        generalize l[j]'(by omega) = x at hx
        have HX := Lib.hid hx
        have c1 := (hb.cell (p := ad.add (j * 2)) (by rw [block_add]; exact hadl)).trans (hcell j x hx).1
        have hwr2 : IntKind.i64.wrap (((j + 1 : Nat) : Int) - 1) = (j : Int) := by
          rw [show (((j + 1 : Nat) : Int) - 1) = (j : Int) by omega]
          rw [IntKind.wrap_i64]; omega
        have hgt : decide ((0 : Int) < ((j + 1 : Nat) : Int)) = true := decide_eq_true (by omega)
        have hjl : j < l.length := by omega
        clear hpre hb hcell hy hx
        cases h1 : Op.bytesLess y.name.toList x.name.toList with
        | true =>
          go_upto_region 4 with fail
          go_quiet (fail)
          go_wp2_with fail
          go_ret
          exact ⟨⟨false, rfl, fun h => by cases h⟩, below_drewN' HB.out _⟩
        | false =>
          cases h2 : (y.name.toList == x.name.toList) with
          | true =>
            go_upto_region 4 with fail
            go_quiet (fail)
            go_wp2_with fail
            go_ret
            exact ⟨⟨false, rfl, fun h => by cases h⟩, below_drewN' HB.out _⟩
          | false =>
            have hless : Op.bytesLess x.name.toList y.name.toList = true := less_total h1 h2
            have HN := Lib.hid (show ∀ (q : Nat) (z t : Nm), q + 1 < j + 1 + 1 → l[q]? = some z → l[q + 1]? = some t → Op.bytesLess z.name.toList t.name.toList = true from fun q z t hq hz ht => by
              by_cases hqj : q = j
              · subst hqj
                rw [HX.out] at hz
                rw [HY.out] at ht
                injection hz with hz
                injection ht with ht
                rw [← hz, ← ht]
                exact hless
              · exact HPRE.out q z t (by omega) hz ht)
            clear hless
            go_upto_region 4 with fail
            go_quiet (fail)
            go_wp2_with fail
            exact ⟨⟨j + 1 + 1, by omega, by go_num, HN.out, below_drewN' HB.out _⟩, by simp [intOf]; omega⟩
    · obtain rfl : k = l.length := by omega
      clear hpre hb
      go_wp2_with fail
      go_ret
      refine ⟨⟨true, rfl, fun _ => ?_⟩, HB.out⟩
      have hstep := HPRE.out
      have less_tr : ∀ x y z : Nm, Op.bytesLess x.name.toList y.name.toList = true → Op.bytesLess y.name.toList z.name.toList = true → Op.bytesLess x.name.toList z.name.toList = true := fun x y z h1 h2 => by
        rw [less_ltStr] at *
        exact Sort.swo_ltStr.trans _ _ _ h1 h2
      refine List.pairwise_iff_getElem.2 fun i j hi hj hij => ?_
      have key : ∀ d i : Nat, ∀ (hi : i < l.length) (hj : i + 1 + d < l.length), Op.bytesLess (l[i]).name.toList (l[i + 1 + d]).name.toList = true := by
        intro d
        induction d with
        | zero => intro i hi hj; exact hstep i _ _ (by omega) (List.getElem?_eq_getElem hi) (List.getElem?_eq_getElem (by omega))
        | succ d ih =>
          intro i hi hj
          refine less_tr _ _ _ (ih i hi (by omega)) ?_
          exact hstep (i + 1 + d) _ _ (by omega) (List.getElem?_eq_getElem (by omega)) (List.getElem?_eq_getElem (by omega))
      have := key (j - i - 1) i hi (by omega)
      have e : i + 1 + (j - i - 1) = j := by omega
      simp only [e] at this
      exact this
end Go.Proofs.YtiehdfokcnphdaaGreatDoor
