import Derived.Test.YtefacagkjcmeeaaDoorProg
import Derived.Test.YtefacagkjcmeeaaDoorB2
import Derived.WalkKit
import Derived.Deep.QuietTactic
import Derived.BigQuiet
import Derived.Deep.Draws
import Derived.Deep.AppendLies
import Derived.Tactics
import Derived.KernelRfl
import Derived.Lib.Hide
import Derived.Deep.DeepFit
import Derived.Outline
import Derived.LoopTactic
import Derived.Deep.LoopGhost
namespace Go.Proofs.YtefacagkjcmeeaaDoor.S
open Go.RowKit

theorem ret_int {k : IntKind} {a b : Int} (h : a = b) : Ending.returned (.int k a) = .returned (.int k b) := by rw [h]

theorem indexFunc_calls (w : World) (A : Option Addr) (r cap : Nat) (l : List Kp) (f : Nat) (first captured : Array Value) (p : Kp → Bool) (hl : l.length ≤ 60)
   (hA : 0 < l.length → A = some ⟨r, 0, none⟩ ∧ r < w.heap.size)
   (hrow : RowAt w r l)
   (hcf : ∀ args W, Sem.run Tryd.prog (callFunc f args) W = .ok (.enter f args) W)
   (hp : ∀ W k, k ∈ l → Below w.heap.size w W → Calls Tryd.prog f (first.push (.agg k.cells) ++ captured) W fun (e : Ending) w' => e = .returned (.bool (p k)) ∧ Below W.heap.size W w') :
   Calls Tryd.prog 33 #[.slice A l.length cap, .func (.func f) first captured] w
     fun e w' => e = .returned (.int .i64 (idxOf p l)) ∧ Below w.heap.size w w' := by
  go_enter Tryd.func33, Tryd.ntmps33
  go_wp2_with fail
  go_loopw [4, 8] (fun z i wr => ∃ k : Nat, k ≤ l.length ∧ i = .int .i64 k ∧ z = .int .i64 0 ∧ (∀ j q, j < k → l[j]? = some q → p q = false) ∧ Below w.heap.size w wr) (fun _ i _ => l.length - (intOf i).toNat)
  case atStart => exact ⟨0, by omega, rfl, rfl, by omega, Below.refl _ _⟩
  case round =>
    obtain ⟨k, hk, rfl, rfl, hno, hb⟩ := hrel
    by_cases hlt : k < l.length
    · obtain ⟨rfl, hr⟩ := hA (by omega)
      have hrow' := hrow.below hb hr
      clear hrow
      have hH := hrow' k l[k] (by simp [hlt])
      have hc := hp wr l[k] (by simp) hb
      have hC := Lib.hid hc
      clear hc
      have hl1 : l[k]? = some l[k] := by simp [hlt]
      have HL := Lib.hid hl1
      clear hp hl1 hA
      generalize l[k] = q at *
      obtain ⟨c0, c1, c2, c3, c4⟩ := hH
      clear hrow'
      go_wp2_with fail
      refine hC.out.mono ?_
      rintro e w1 ⟨rfl, hb1⟩
      have hb2 : Below w.heap.size w w1 := hb.trans (hb1.mono hb.size)
      by_cases hpk : p q = true
      · have HP := Lib.hid hpk
        clear hpk hb1
        simp only [HP.out]
        go_wp2_with fail
        go_ret
        exact ⟨ret_int (idxOf_some p l k q HL.out HP.out hno).symm, hb2⟩
      · have hpk' : p q = false := by simpa using hpk
        have HP := Lib.hid hpk'
        clear hpk hpk' hb1
        simp only [HP.out]
        go_wp2_with fail
        go_roundw
        case rel => 
          refine ⟨k + 1, by omega, by go_num, rfl, ?_, hb2⟩
          intro j q' hj hq'
          by_cases hjk : j = k
          · subst hjk
            have := HL.out
            rw [this] at hq'
            cases hq'
            exact HP.out
          · exact hno j q' (by omega) hq'
        case measure => simp [intOf]; omega
    · have hkl : k = l.length := by omega
      clear hp hA hrow
      go_wp2_with fail
      go_ret
      exact ⟨ret_int (idxOf_none p l (fun j q hj => hno j q (by have := (List.getElem?_eq_some_iff.1 hj).1; omega) hj)).symm, hb⟩
theorem clear_calls (w : World) (r cap i n : Nat) (ty : TypeId) {l : List Kp} (h : OwnRow w 71 r cap l) (hi : i < n) (hn : n ≤ cap) :
    ∃ vs, (Builtin.clear_ #[66] ty #[.slice (some ⟨r, i * 5, none⟩) (n - i) (cap - i)]).run Tryd.prog w = .ok (.tuple #[]) (w.setCells r (i * 5) vs) := by
  refine ⟨_, run_clear_row w 66 71 ty (.agg #[.string ⟨#[]⟩, .string ⟨#[]⟩, .string ⟨#[]⟩, .int .i64 0, .string ⟨#[]⟩]) Tryd.underlying66 (fun _ => by kernel_rfl) ?_ (by simp [Value.cells]) r (i * 5) (n - i) (cap - i) (by omega) ?_ ?_⟩
  · simp [Value.cells, Value.oneCell']
  · intro j hj
    simp [Value.cells] at hj
    obtain ⟨v, hv⟩ := h.isCell (i * 5 + j) (by omega)
    rw [hv]; rfl
  · intro j _
    exact h.frozen _

theorem deleteFunc_calls (w : World) (r cap : Nat) (l : List Kp) (f : Nat) (first captured : Array Value) (p : Kp → Bool) (hl : l.length ≤ 60)
   (hrow : OwnRow w 71 r cap l) (hcap : cap ≤ 9223372036854775807)
   (hcf : ∀ args W, Sem.run Tryd.prog (callFunc f args) W = .ok (.enter f args) W)
   (hp : ∀ W k, k ∈ l → w.grownBy W (some r) → Calls Tryd.prog f (first.push (.agg k.cells) ++ captured) W fun (e : Ending) w' => e = .returned (.bool (p k)) ∧ Below W.heap.size W w') :
   Calls Tryd.prog 31 #[.slice (some ⟨r, 0, none⟩) l.length cap, .func (.func f) first captured] w
     fun e w' => e = .returned (.slice (some ⟨r, 0, none⟩) (keep p l).length cap) ∧ OwnRow w' 71 r cap (keep p l) ∧ w.grownBy w' (some r) := by
  have hrow0 := hrow
  have hlt := hrow.lt
  obtain ⟨cur, hh, hsz, hlc, hat⟩ := hrow
  have HI := Lib.hid (indexFunc_calls w (some ⟨r, 0, none⟩) r cap l f first captured p hl (fun _ => ⟨rfl, hlt⟩) hat hcf (fun W k hk hb => hp W k hk (grown_of_below hb _)))
  have HCASE := Lib.hid (idxOf_cases p l)
  go_enter Tryd.func31, Tryd.ntmps31
  go_wp2_with fail
  refine HI.out.mono ?_
  rintro e w1 ⟨rfl, hb1⟩
  have HR1 := Lib.hid (hrow0.below hb1 hlt)
  have HG1 := Lib.hid (grown_of_below hb1 (some r))
  have HP := Lib.hid hp
  clear HI hrow0 hb1 hat hh hsz cur hp
  rcases HCASE.out with ⟨h1, h2⟩ | ⟨m, q, h1, h2, h3, h4, h5⟩
  · clear HCASE
    have hk : keep p l = l := List.filter_eq_self.2 (fun a ha => by rw [h2 a ha]; rfl)
    have HK := Lib.hid hk
    clear h2 hk
    rw [h1]
    clear h1
    go_wp2_with fail
    go_ret
    refine ⟨by rw [HK.out]; rfl, by rw [HK.out]; exact HR1.out, HG1.out⟩
  · clear HCASE
    rw [h1]
    clear h1
    have HS := Lib.hid (DInv.start h2 h3 h4 h5)
    clear h2 h4 h5 q
    have hm1 : ((m : Int) == -1) = false := beq_eq_false_iff_ne.2 (by omega)
    go_wp2_with fail
    clear hm1
    go_loopw [5, 6] (fun i j wr => ∃ (i' j' : Nat) (L : List Kp), i = .int .i64 i' ∧ j = .int .i64 j' ∧ DInv p l L i' j' ∧ OwnRow wr 71 r cap L ∧ w.grownBy wr (some r)) (fun _ j _ => l.length - (intOf j).toNat)
    case atStart => exact ⟨m, m + 1, l, rfl, by go_num, HS.out, HR1.out, HG1.out⟩
    case round =>
      obtain ⟨i, j, L, rfl, rfl, hD, hO, hG⟩ := hrel
      clear HS HR1 HG1
      by_cases hlt2 : j < l.length
      · have hq : l[j]? = some l[j] := by simp [hlt2]
        have hmem : l[j] ∈ l := by simp
        generalize l[j] = q at hq hmem
        have hDij := hD.lt
        have hOlt := hO.lt
        have hCall := HP.out (wr.alloc (.cells q.cells 71)) q hmem (grown_trans hG (alloc_grown _ _ _))
        have HC := Lib.hid hCall
        have HQ := Lib.hid hq
        have HD := Lib.hid hD
        have HO := Lib.hid hO
        have HG := Lib.hid hG
        obtain ⟨c0, c1, c2, c3, c4⟩ := hO.choose_spec.2.2.2 j q (hD.get.trans hq)
        have hst := fun W a => run_store Tryd.prog W a q.x .plain q.one
        clear hCall hq hD hO hG HP hmem
        go_wp2_with fail
        refine HC.out.mono ?_
        rintro e w2 ⟨rfl, hb2⟩
        have hcell := fun o => hb2.cell (p := ⟨wr.heap.size, o, none⟩) (by simp)
        have d0 := hcell 0; have d1 := hcell 1; have d2 := hcell 2; have d3 := hcell 3; have d4 := hcell 4
        simp at d0 d1 d2 d3 d4
        have HG2 := Lib.hid (grown_below (grown_trans HG.out (alloc_grown _ _ _)) hb2)
        have hO2 := HO.out.same (hb2.block r (by simp; omega) |>.trans (Below.heap_alloc _ _ _ hOlt))
        have HO2 := Lib.hid hO2
        clear hcell hb2 HC HO HG c0 c1 c2 c3 c4
        by_cases hpq : p q = true
        · have HPQ := Lib.hid hpq
          rw [hpq]
          clear hpq d0 d1 d2 d3 d4 hO2
          go_wp2_with fail
          go_roundw
          case rel => exact ⟨i, j + 1, L, rfl, by go_num, HD.out.drop HQ.out HPQ.out, HO2.out, HG2.out⟩
          case measure => simp [intOf]; omega
        · have hpq : p q = false := by simpa using hpq
          have HPQ := Lib.hid hpq
          rw [hpq]
          have hle : L.length ≤ cap := by rw [HD.out.len]; exact hlc
          have hlen := HD.out.len
          obtain ⟨v0, e0⟩ := hO2.isCell (i * 5) (by omega)
          obtain ⟨v1, e1⟩ := hO2.isCell (i * 5 + 1) (by omega)
          obtain ⟨v2, e2⟩ := hO2.isCell (i * 5 + 2) (by omega)
          obtain ⟨v3, e3⟩ := hO2.isCell (i * 5 + 3) (by omega)
          obtain ⟨v4, e4⟩ := hO2.isCell (i * 5 + 4) (by omega)
          have hfz := hO2.frozen
          have HLEN := Lib.hid hlen
          have hpt : ∀ (a b : Nat) (o : World) (v : Value), a ≠ b → (o.setCell ⟨r, a, none⟩ v).cell? ⟨r, b, none⟩ = o.cell? ⟨r, b, none⟩ := fun a b o v h => cell_other h
          clear hpq hO2 hlen
          go_wp2_with fail
          have hil : i < L.length := by have := HLEN.out; omega
          exact ⟨⟨i + 1, j + 1, L.set i q, by go_num, by go_num, HD.out.keep_ HQ.out HPQ.out, HO2.out.put i hil q, grown_trans HG2.out put5_grown⟩, by simp [intOf]; omega⟩
      · have hjl := hD.le
        have hij := hD.lt
        obtain rfl : j = l.length := by omega
        obtain ⟨hd1, hd2⟩ := hD.done
        have HD1 := Lib.hid hd1
        have HD2 := Lib.hid hd2
        obtain ⟨vs, hcl⟩ := clear_calls wr r cap i l.length 0 hO hij hlc
        have HO := Lib.hid hO
        have HG := Lib.hid hG
        have hic : (cap = i) = False := by simp; omega
        clear hD hd1 hd2 hO hG HP
        go_wp2_with fail
        go_ret
        exact ⟨by rw [HD2.out]; rfl, by rw [← HD1.out]; exact HO.out.cleared i vs, grown_trans HG.out (setCells_grown _ _ _ _)⟩

/-- A book's row of things: nil, or a row of its own. -/
def SlRow (w : World) (A : Option Addr) (cap : Nat) (ro : Option Nat) (l : List Kp) : Prop :=
  (A = none ∧ l = [] ∧ cap = 0 ∧ ro = none) ∨ ∃ r, A = some ⟨r, 0, none⟩ ∧ ro = some r ∧ cap ≤ 9223372036854775807 ∧ OwnRow w 71 r cap l
theorem SlRow.same {w w' : World} {A : Option Addr} {cap : Nat} {ro : Option Nat} {l : List Kp} (h : SlRow w A cap ro l) (hb : ∀ r, ro = some r → w'.heap[r]? = w.heap[r]?) : SlRow w' A cap ro l := by
  rcases h with h | ⟨r, h1, h2, h3, h4⟩
  · exact .inl h
  · exact .inr ⟨r, h1, h2, h3, h4.same (hb r h2)⟩
theorem SlRow.lt {w : World} {A : Option Addr} {cap : Nat} {ro : Option Nat} {l : List Kp} (h : SlRow w A cap ro l) : ∀ r, ro = some r → r < w.heap.size := by
  rintro r rfl
  rcases h with ⟨_, _, _, h⟩ | ⟨r', h1, h2, h3, h4⟩
  · cases h
  · cases h2; exact h4.lt

theorem index_sl (w : World) (A : Option Addr) (cap : Nat) (ro : Option Nat) (l : List Kp) (f : Nat) (first captured : Array Value) (p : Kp → Bool) (hl : l.length ≤ 60) (hrow : SlRow w A cap ro l)
   (hcf : ∀ args W, Sem.run Tryd.prog (callFunc f args) W = .ok (.enter f args) W)
   (hp : ∀ W k, k ∈ l → Below w.heap.size w W → Calls Tryd.prog f (first.push (.agg k.cells) ++ captured) W fun (e : Ending) w' => e = .returned (.bool (p k)) ∧ Below W.heap.size W w') :
   Calls Tryd.prog 33 #[.slice A l.length cap, .func (.func f) first captured] w
     fun e w' => e = .returned (.int .i64 (idxOf p l)) ∧ Below w.heap.size w w' := by
  rcases hrow with ⟨rfl, rfl, rfl, rfl⟩ | ⟨r, rfl, rfl, h3, h4⟩
  · exact indexFunc_calls w none 0 0 [] f first captured p hl (fun h => absurd h (by simp)) (fun i k h => by simp at h) hcf hp
  · exact indexFunc_calls w _ r cap l f first captured p hl (fun _ => ⟨rfl, h4.lt⟩) h4.choose_spec.2.2.2 hcf hp

theorem delete_sl (w : World) (A : Option Addr) (cap : Nat) (ro : Option Nat) (l : List Kp) (f : Nat) (first captured : Array Value) (p : Kp → Bool) (hl : l.length ≤ 60) (hrow : SlRow w A cap ro l)
   (hcf : ∀ args W, Sem.run Tryd.prog (callFunc f args) W = .ok (.enter f args) W)
   (hp : ∀ W k, k ∈ l → w.grownBy W ro → Calls Tryd.prog f (first.push (.agg k.cells) ++ captured) W fun (e : Ending) w' => e = .returned (.bool (p k)) ∧ Below W.heap.size W w') :
   Calls Tryd.prog 31 #[.slice A l.length cap, .func (.func f) first captured] w
     fun e w' => e = .returned (.slice A (keep p l).length cap) ∧ SlRow w' A cap ro (keep p l) ∧ w.grownBy w' ro := by
  rcases hrow with ⟨rfl, rfl, rfl, rfl⟩ | ⟨r, rfl, rfl, h3, h4⟩
  · have HI := Lib.hid (index_sl w none 0 none [] f first captured p hl (.inl ⟨rfl, rfl, rfl, rfl⟩) hcf (fun W k hk hb => hp W k hk (grown_of_below hb _)))
    clear hp
    go_enter Tryd.func31, Tryd.ntmps31
    go_wp2_with fail
    refine HI.out.mono ?_
    rintro e w1 ⟨rfl, hb1⟩
    have HG1 := Lib.hid (grown_of_below hb1 none)
    clear HI hb1
    have e0 : idxOf p [] = -1 := rfl
    rw [e0]
    clear e0
    go_wp2_with fail
    go_ret
    exact ⟨rfl, .inl ⟨rfl, rfl, rfl, rfl⟩, HG1.out⟩
  · exact (deleteFunc_calls w r cap l f first captured p hl h4 h3 hcf hp).mono fun e w' ⟨h1, h2, h5⟩ => ⟨h1, .inr ⟨r, rfl, rfl, h3, h2⟩, h5⟩

end Go.Proofs.YtefacagkjcmeeaaDoor.S
