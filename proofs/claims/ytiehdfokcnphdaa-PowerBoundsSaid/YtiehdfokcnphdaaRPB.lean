/- PowerBounds, whatever the two levels and the two names: the call returns true and its arguments read as they did. No condition. -/
import Derived.Test.YtiehdfokcnphdaaRows
import Derived.Test.YtiehdfokcnphdaaPb
import Derived.Test.YtiehdfokcnphdaaRx
import Derived.WalkKit
import Derived.ProofKit
import Derived.HandedShaped
import Derived.OpenShut
import Derived.ShutString
import Derived.ChangeOld
import Derived.Below
import Derived.SizedLaws
import Derived.Carry
import Derived.ChangeMaps5
namespace Go.Proofs.Ytiehdfokcnphdaa.powerBounds
open Go.ChangeShapes Go.WideShapes Go.ChangeAt Go.RowKit
set_option linter.unusedVariables false

theorem own : ownKnob Try.prog.godebug = none := by kernel_rfl
theorem laidOut : laidOutB Try.prog = true := by kernel_rfl
theorem mx_of {w : World} (h : w.ShapedOpen Try.prog) : Mx w :=
  Go.Proofs.cell_of_shapedOpen_int (zero := #[.int .i64 0]) (t := 3) h (of_decide_eq_true (by kernel_rfl)) (by kernel_rfl) rfl (by kernel_rfl) (by kernel_rfl) Try.underlying3
theorem cells2 : Try.prog.cellsOf 53 = 2 := by kernel_rfl
theorem cellsS : Try.prog.cellsOf 9 = 1 := by kernel_rfl
theorem list2 (l : List Value) (h : l.length = 2) : ∃ a b, l = [a, b] := by
  match l, h with
  | [a, b], _ => exact ⟨a, b, rfl⟩
set_option maxRecDepth 100000 in
theorem okWide_array {w : World} {r : Reach} {base : Nat} {t : TypeId} {v : Value} {n : Nat} {e : TypeId} (ht : Try.prog.underlying t = some (.array n e)) (h : Value.okWide Try.prog w r base t v) : ∃ cs, v = .agg cs ∧ cs.size = Try.prog.cellsOf t := by
  simp only [Value.okWide, ht] at h
  obtain ⟨cs, h1, h2, _⟩ := h
  exact ⟨cs, h1, h2⟩
set_option maxRecDepth 100000 in
theorem open_two {H : Type} {enc : TypeId × Value → H} {W : World} {r : Reach} {b : Nat} {held : Bool} {v : Value} {d : DataW H} {p : List MemPlace} (hv : Value.okWide Try.prog W r b 53 v) (h : DataW.Trod enc Try.prog W 0 (fun _ => true) held 53 v d p) :
    ∃ s1 s2 : ByteArray, v = .agg #[.string s1, .string s2] := by
  obtain ⟨cs, rfl, hsz⟩ := okWide_array Try.underlying53 hv
  rw [cells2] at hsz
  obtain ⟨l⟩ := cs
  obtain ⟨c0, c1, rfl⟩ := list2 l hsz
  obtain ⟨fuel, hf⟩ := h
  obtain ⟨ys, m, _, _, _, hyl, hya⟩ := DataW.trod_array Try.underlying53 hf
  have hb : ∀ i (hi : i < 2), ∀ c, (([c0, c1].drop (i * 1)).take 1) = [c] → ∃ z : ByteArray, c = .string z := by
    intro i hi c hc
    have := hya i hi
    rw [cellsS] at this
    have hc' : ((Value.agg #[c0, c1]).cells.toList.drop (i * 1)).take 1 = [c] := hc
    first | rw [hc'] at this | rw [hc] at this
    rw [List.getElem?_eq_getElem (by omega)] at this
    obtain ⟨z, e, _⟩ := DataW.trod_string Try.underlying9 this
    simp at e
    exact ⟨z, e⟩
  obtain ⟨z0, rfl⟩ := hb 0 (by omega) c0 rfl
  obtain ⟨z1, rfl⟩ := hb 1 (by omega) c1 rfl
  exact ⟨z0, z1, rfl⟩
set_option maxRecDepth 100000 in
theorem lifted (os : Os) (started : os.Started) (H : Type) (enc : TypeId × Value → H) :
    ReturnsInHanded {} Try.checked os 5 .any (Rows.powerBoundsSpec.pre6 enc Try.prog Try.f5 [] false) (Rows.powerBoundsSpec.post enc Try.prog Try.f5 false true false false) := by
  refine returnsInHanded_of_change_shaped (C := Try.checked) own started (by kernel_rfl) Try.func5
    (ChangeSpec.witness6 (enc := enc) (C := Try.checked) false ⟨#[], #[.agg #[.int .i64 0, .int .i64 0, .int .i64 0, .int .i64 0, .int .i64 0, .int .i64 0, .int .i64 0, .slice none 0 0, .slice none 0 0], .agg #[.int .i64 0, .int .i64 0, .int .i64 0, .int .i64 0, .int .i64 0, .int .i64 0, .int .i64 0, .slice none 0 0, .slice none 0 0], .agg #[.string ⟨#[]⟩, .string ⟨#[]⟩]], []⟩ 40 (by kernel_rfl) (by kernel_rfl) (by kernel_rfl) (by kernel_rfl)) ?_
  intro W base args ds gs before hval0 hW _ _ hsh _
  have hval : ∀ (j : Nat) t v, Try.f5.params[j]? = some t → args[j]? = some v → Value.okWide Try.prog W .any base t v := hval0
  have hW' := hW
  obtain ⟨p, q, hA0, hV, rfl, hfz, hnd⟩ := hW
  have hA : DataW.TrodAll enc Try.prog W 0 (fun _ => true) true Try.f5.params.toList args.toList ds p := hA0
  rw [Try.params5] at hA hval
  obtain ⟨v0, vs0, d0, ds0, p0, q0, hargs, rfl, rfl, h0, r0⟩ := trodAll_cons hA
  obtain ⟨v1, vs1, d1, ds1, p1, q1, rfl, rfl, rfl, h1, r1⟩ := trodAll_cons r0
  obtain ⟨v2, vs2, d2, ds2, p2, q2, rfl, rfl, rfl, h2, r2⟩ := trodAll_cons r1
  obtain ⟨rfl, rfl, rfl⟩ := trodAll_nil r2
  obtain rfl : args = #[v0, v1, v2] := by cases args; simp_all
  obtain ⟨rfl, rfl⟩ := trodVars_none hV
  have k0 := h0
  have lt0 : ∀ x ∈ p0, x.block < W.heap.size := by obtain ⟨m, hm⟩ := k0; exact DataW.trod_lt m _ _ _ hm
  have k1 := h1
  have lt1 : ∀ x ∈ p1, x.block < W.heap.size := by obtain ⟨m, hm⟩ := k1; exact DataW.trod_lt m _ _ _ hm
  have k2 := h2
  have lt2 : ∀ x ∈ p2, x.block < W.heap.size := by obtain ⟨m, hm⟩ := k2; exact DataW.trod_lt m _ _ _ hm
  obtain ⟨x, ex, ux, rfl, hex, hux⟩ := open_levels (hval 0 25 v0 rfl rfl) h0
  obtain ⟨y, ey, uy, rfl, hey, huy⟩ := open_levels (hval 1 25 v1 rfl rfl) h1
  obtain ⟨s1, s2, rfl⟩ := open_two (hval 2 53 v2 rfl rfl) h2
  clear hA0 hval0
  refine (bounds_calls W x y s1 s2 ex ux ey uy hex hux hey huy (mx_of hsh)).mono fun e W' ⟨he, bel⟩ => ?_
  subst he
  have t0 := Below.trod laidOut (by kernel_rfl) (of_decide_eq_true (by kernel_rfl)) k0 bel lt0
  have t1 := Below.trod laidOut (by kernel_rfl) (of_decide_eq_true (by kernel_rfl)) k1 bel lt1
  have t2 := Below.trod laidOut (by kernel_rfl) (of_decide_eq_true (by kernel_rfl)) k2 bel lt2
  exact ⟨_, rfl, _, _, _, [], _, [], hW', trodAll_mk1 (shut_bool Try.underlying4 _), (trodAll_cons_mk t0 (trodAll_cons_mk t1 (trodAll_cons_mk t2 trodAll_mk0))), rfl, bel.frame _, fun h => by cases h⟩

theorem powerBounds_proved : Rows.PowerBoundsSaid :=
  OpenClaim.holds_of_wide 5 Try.f5 rfl rfl rfl rfl rfl rfl rfl ⟨rfl, rfl, rfl, rfl, rfl⟩ rfl rfl rfl rfl rfl (by kernel_rfl) Try.func5 (by kernel_rfl)
    (of_decide_eq_true (by kernel_rfl)) (by unfold Func.isWrapper; first | (rw [if_pos (by decide +kernel)]; kernel_rfl) | (rw [if_neg (by decide +kernel)]; exact ⟨rfl, rfl⟩))
    (fun os started H enc _ => lifted os started H enc)
#print axioms powerBounds_proved
end Go.Proofs.Ytiehdfokcnphdaa.powerBounds
namespace Go.Proofs.Ytiehdfokcnphdaa
theorem powerBounds_said : Rows.PowerBoundsSaid := powerBounds.powerBounds_proved
#print axioms powerBounds_said
end Go.Proofs.Ytiehdfokcnphdaa
