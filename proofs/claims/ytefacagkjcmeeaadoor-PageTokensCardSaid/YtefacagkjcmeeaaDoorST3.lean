import Derived.Test.YtefacagkjcmeeaaDoorST2
import Derived.Test.YtefacagkjcmeeaaDoorFmt
import Derived.Deep.RegionLaw
import Derived.RegionTactic
import Derived.ChangeAlike
namespace Go.Proofs.YtefacagkjcmeeaaDoor.S
open Go.RowKit

theorem info_el : (Tryd.prog.info? 71).map (fun i => (i.zero, i.size, i.bytes)) = some (some (.agg #[.string ⟨#[]⟩, .string ⟨#[]⟩, .string ⟨#[]⟩, .int .i64 0, .string ⟨#[]⟩]), 5, 72) := by kernel_rfl

theorem append_tail (w : World) (r cap : Nat) (ty : TypeId) (t : List Kp) (a : Addr) {l : List Kp} (h : OwnRow w 71 r cap l) (hn : t.length ≤ cap) (ha : ∀ j u, (flat t)[j]? = some u → w.cell? (a.add j) = some u) (c : Nat) :
    ∃ w', (Builtin.append_ #[66, 66] ty #[.slice (some ⟨r, 0, none⟩) 0 cap, .slice (some a) t.length c]).run Tryd.prog w = .ok (.slice (some ⟨r, 0, none⟩) t.length cap) w' ∧ OwnRow w' 71 r cap t ∧ w.grownBy w' (some r) := by
  obtain ⟨cur, h1, h2, h3, h4⟩ := h
  obtain ⟨i0, hi, hz0, hz1, hz2⟩ := info_parts info_el
  have hA := run_append_room (P := Tryd.prog) (w := w) (ty := ty) 66 71 i0 Tryd.underlying66 hi r 0 cap cur h1 a t.length c (flat t) (by rw [flat_length, hz1]) ha (flat_one t) (by omega) (by rw [flat_length]; omega)
  have e0 : 0 + t.length = t.length := Nat.zero_add _
  rw [e0] at hA
  refine ⟨_, hA, ?_, ?_⟩
  · have hh : (w.setRow r (cur.toList.take (0 * i0.size) ++ flat t ++ cur.toList.drop (0 * i0.size + (flat t).length)).toArray).heap[r]? = some (.cells (cur.toList.take (0 * i0.size) ++ flat t ++ cur.toList.drop (0 * i0.size + (flat t).length)).toArray 71 (0, 0)) := by
      simp only [World.setRow, Array.getElem?_modify, h1]
      simp
    refine ⟨_, hh, ?_, hn, rowAt_of_flat fun j u hu => ?_⟩
    · simp [flat_length, h2]; omega
    · have hj : j < (flat t).length := (List.getElem?_eq_some_iff.1 hu).1
      simp only [World.cell?, hh]
      simp [List.getElem?_append_left hj, hu]
  · exact ⟨rfl, rfl, rfl, by simp [World.setRow], fun k _ hne => by
      simp only [World.setRow, Array.getElem?_modify]
      rw [if_neg (fun e => hne (by rw [e]))]⟩

theorem step_append_eq {P : Program} {ops : Array Oper} {o : Oper} {a : Act} {w : World} {K : Act → World → Prop} {Q : Exit → Act → World → Prop} {E : Prop}
    (hg : o.guard = none) (s x : Operand) (t : TypeId) (hop : o.op = Op.call { callee := Callee.builtin Builtin.append, args := #[s, x], argTypes := #[t, t] })
    (vs vx v : Value) (w' : World) (hs : a.eval s = vs) (hx : a.eval x = vx) (hrun : (Builtin.append_ #[t, t] o.type #[vs, vx]).run P w = .ok v w') (hK : K (a.put o.dst v) w') :
    if Region.wanted o (yielded ops a.tmps) = true then Oper.wp P o a w K Q else E := by
  have hw : Region.wanted o (yielded ops a.tmps) = true := by simp [Region.wanted, hg]
  rw [if_pos hw]
  unfold Oper.wp
  simp [execOp, hop, resolve, hs, hx, invoke, builtin, hrun, Oper.upon_value, hK]

set_option maxHeartbeats 2000000 in
set_option maxRecDepth 100000 in
theorem delete_first (w : World) (r cap : Nat) (k0 : Kp) (t : List Kp) (hrow : OwnRow w 71 r cap (k0 :: t)) (hcap : cap ≤ 9223372036854775807) :
   Calls Tryd.prog 23 #[.slice (some ⟨r, 0, none⟩) (t.length + 1) cap, .int .i64 0, .int .i64 1] w
     fun e w' => e = .returned (.slice (some ⟨r, 0, none⟩) t.length cap) ∧ OwnRow w' 71 r cap t ∧ w.grownBy w' (some r) := by
  have hle : t.length + 1 ≤ cap := by obtain ⟨_, _, _, h, _⟩ := hrow; simpa using h
  have hne : t.length ≠ cap := by omega
  have happ : ∀ ty, ∃ w', (Builtin.append_ #[66, 66] ty #[.slice (some ⟨r, 0, none⟩) 0 cap, .slice (if cap = 1 then some ⟨r, 0, none⟩ else some ⟨r, 5, none⟩) t.length (cap - 1)]).run Tryd.prog w.drew = .ok (.slice (some ⟨r, 0, none⟩) t.length cap) w' ∧ OwnRow w' 71 r cap t ∧ w.drew.grownBy w' (some r) := fun ty => by
    rw [show (if cap = 1 then some (⟨r, 0, none⟩ : Addr) else some ⟨r, 5, none⟩) = some (if cap = 1 then ⟨r, 0, none⟩ else ⟨r, 5, none⟩) by split <;> rfl]
    refine append_tail w.drew r cap ty t _ (hrow.same rfl) (by omega) ?_ (cap - 1)
    intro j u hu
    have hj : j < (flat t).length := (List.getElem?_eq_some_iff.1 hu).1
    rw [flat_length] at hj
    rw [if_neg (by omega)]
    have := flat_of_rowAt hrow.choose_spec.2.2.2 (5 + j) u (by
      rw [flat_cons, List.getElem?_append_right (by simp)]
      simpa using hu)
    have e : (⟨r, 5, none⟩ : Addr).add j = ⟨r, 5 + j, none⟩ := by
      unfold Addr.add; split <;> simp_all
    rw [e]; exact this
  go_enter Tryd.func23, Tryd.ntmps23
  go_wp2_with fail
  obtain ⟨W1, hA, hO1, hG1⟩ := happ 66
  have HO := Lib.hid hO1
  have HG := Lib.hid hG1
  clear happ hO1 hG1 hrow
  have hb1 : (1 : Int) ≤ (t.length : Int) + 1 := by omega
  go_region_law (refine step_append_eq rfl (.tmp 22) (.tmp 25) 66 rfl (.slice (some ⟨r, 0, none⟩) 0 cap) (.slice (if cap = 1 then some ⟨r, 0, none⟩ else some ⟨r, 5, none⟩) t.length (cap - 1)) (.slice (some ⟨r, 0, none⟩) t.length cap) W1 (by simp [Act.eval, Act.put]) (by simp [Act.eval, Act.put]) hA ?_)
  obtain ⟨vs, hcl⟩ := clear_calls W1 r cap t.length (t.length + 1) 0 HO.out (by omega) hle
  rw [show t.length + 1 - t.length = 1 by omega] at hcl
  have hic : (cap = t.length) = False := by simp; omega
  clear hA hb1
  go_wp2_with fail
  all_goals
    go_ret
    have h1 := HO.out.cleared t.length vs
    rw [List.take_length] at h1
    have h2 := grown_trans HG.out (setCells_grown r vs (t.length * 5) W1)
    have h3 : w.grownBy (W1.setCells r (t.length * 5) vs) (some r) := ⟨h2.os, h2.tape, h2.output, h2.size, h2.block⟩
    first
      | exact ⟨rfl, h1, h3⟩
      | (subst h; exact ⟨rfl, h1, h3⟩)

set_option maxRecDepth 100000 in
/-- token(), of the number in box d. -/
theorem put1_calls (w : World) (d u : Nat) (hu : u < 4294967296) (hc : w.cell? ⟨d, 0, none⟩ = some (.int .u32 u)) (htab : Lib.TabIs Tryd.prog w "internal/strconv.uint64pow10" .u64 Lib.pow10Tab) :
   Calls Tryd.prog 24 #[.pointer (some ⟨d, 0, none⟩)] w
     fun e w' => e = .returned (.string (tokOf u)) ∧ Below w.heap.size w w' := by
  have H := Lib.hid (fmt_calls u (by omega) w htab)
  have hu' : (u : Int) < 4294967296 := by omega
  clear htab
  go_enter Tryd.func24, Tryd.ntmps24
  go_wp2_with fail
  refine H.out.mono ?_
  rintro e w1 ⟨rfl, hb⟩
  have HB := Lib.hid hb
  have hlen := dec_len u (by omega)
  obtain ⟨dd, hdd⟩ : ∃ dd, dd = Lib.decDigits u := ⟨_, rfl⟩
  rw [← hdd] at hlen ⊢
  have HE := Lib.hid hdd
  clear H hb hu hu' hc hdd
  go_wp2_with fail
  go_ret
  refine ⟨?_, HB.out⟩
  unfold tokOf
  rw [← HE.out]
  simp
  rfl
end Go.Proofs.YtefacagkjcmeeaaDoor.S
