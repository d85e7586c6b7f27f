/- PowerDefaults, whatever seven answers and whatever number: the call returns true and its arguments read as they did. No condition. -/
import Derived.Test.YtiehdfokcnphdaaRows
import Derived.Test.YtiehdfokcnphdaaDw
import Derived.WalkKit
import Derived.ProofKit
import Derived.HandedShaped
import Derived.OpenShut
import Derived.ShutString
import Derived.ChangeOld
import Derived.Below
import Derived.SizedLaws
import Derived.Carry
import Derived.ChangeMaps5
namespace Go.Proofs.Ytiehdfokcnphdaa.powerDefaults
open Go.ChangeShapes Go.WideShapes Go.ChangeAt Go.RowKit
set_option linter.unusedVariables false

theorem own : ownKnob Try.prog.godebug = none := by kernel_rfl
theorem laidOut : laidOutB Try.prog = true := by kernel_rfl
theorem cells7 : Try.prog.cellsOf 37 = 7 := by kernel_rfl
theorem cellsB : Try.prog.cellsOf 4 = 1 := by kernel_rfl
set_option maxRecDepth 100000 in
theorem list7 (l : List Value) (h : l.length = 7) : ∃ a b c d e f g, l = [a, b, c, d, e, f, g] := by
  match l, h with
  | [a, b, c, d, e, f, g], _ => exact ⟨a, b, c, d, e, f, g, rfl⟩
theorem mx_of {w : World} (h : w.ShapedOpen Try.prog) : Mx w :=
  Go.Proofs.cell_of_shapedOpen_int (zero := #[.int .i64 0]) (t := 3) h (of_decide_eq_true (by kernel_rfl)) (by kernel_rfl) rfl (by kernel_rfl) (by kernel_rfl) Try.underlying3
set_option maxRecDepth 100000 in
theorem okWide_array {w : World} {r : Reach} {base : Nat} {t : TypeId} {v : Value} {n : Nat} {e : TypeId} (ht : Try.prog.underlying t = some (.array n e)) (h : Value.okWide Try.prog w r base t v) : ∃ cs, v = .agg cs ∧ cs.size = Try.prog.cellsOf t := by
  simp only [Value.okWide, ht] at h
  obtain ⟨cs, h1, h2, _⟩ := h
  exact ⟨cs, h1, h2⟩
set_option maxRecDepth 100000 in
theorem open_seven {H : Type} {enc : TypeId × Value → H} {W : World} {r : Reach} {b : Nat} {held : Bool} {v : Value} {d : DataW H} {p : List MemPlace} (hv : Value.okWide Try.prog W r b 37 v) (h : DataW.Trod enc Try.prog W 0 (fun _ => true) held 37 v d p) :
    ∃ f : Nat → Bool, v = .agg #[.bool (f 0), .bool (f 1), .bool (f 2), .bool (f 3), .bool (f 4), .bool (f 5), .bool (f 6)] := by
  obtain ⟨cs, rfl, hsz⟩ := okWide_array Try.underlying37 hv
  rw [cells7] at hsz
  obtain ⟨l⟩ := cs
  obtain ⟨c0, c1, c2, c3, c4, c5, c6, rfl⟩ := list7 l hsz
  obtain ⟨fuel, hf⟩ := h
  obtain ⟨ys, m, _, _, _, hyl, hya⟩ := DataW.trod_array Try.underlying37 hf
  have hb : ∀ i (hi : i < 7), ∀ c, (([c0, c1, c2, c3, c4, c5, c6].drop (i * 1)).take 1) = [c] → ∃ z : Bool, c = .bool z := by
    intro i hi c hc
    have := hya i hi
    rw [cellsB] at this
    have hc' : ((Value.agg #[c0, c1, c2, c3, c4, c5, c6]).cells.toList.drop (i * 1)).take 1 = [c] := hc
    first | rw [hc'] at this | rw [hc] at this
    rw [List.getElem?_eq_getElem (by omega)] at this
    obtain ⟨z, e, _⟩ := DataW.trod_bool Try.underlying4 this
    simp at e
    exact ⟨z, e⟩
  obtain ⟨z0, rfl⟩ := hb 0 (by omega) c0 rfl
  obtain ⟨z1, rfl⟩ := hb 1 (by omega) c1 rfl
  obtain ⟨z2, rfl⟩ := hb 2 (by omega) c2 rfl
  obtain ⟨z3, rfl⟩ := hb 3 (by omega) c3 rfl
  obtain ⟨z4, rfl⟩ := hb 4 (by omega) c4 rfl
  obtain ⟨z5, rfl⟩ := hb 5 (by omega) c5 rfl
  obtain ⟨z6, rfl⟩ := hb 6 (by omega) c6 rfl
  exact ⟨fun i => [z0, z1, z2, z3, z4, z5, z6].getD i false, rfl⟩
set_option maxRecDepth 100000 in
theorem lifted (os : Os) (started : os.Started) (H : Type) (enc : TypeId × Value → H) :
    ReturnsInHanded {} Try.checked os 4 .any (Rows.powerDefaultsSpec.pre6 enc Try.prog Try.f4 [] false) (Rows.powerDefaultsSpec.post enc Try.prog Try.f4 false true false false) := by
  refine returnsInHanded_of_change_shaped (C := Try.checked) own started (by kernel_rfl) Try.func4
    (ChangeSpec.witness6 (enc := enc) (C := Try.checked) false ⟨#[], #[.agg #[.bool false, .bool false, .bool false, .bool false, .bool false, .bool false, .bool false], .int .i64 0], []⟩ 8 (by kernel_rfl) (by kernel_rfl) (by kernel_rfl) (by kernel_rfl)) ?_
  intro W base args ds gs before hval0 hW _ _ hsh _
  have hval : ∀ (j : Nat) t v, Try.f4.params[j]? = some t → args[j]? = some v → Value.okWide Try.prog W .any base t v := hval0
  have hW' := hW
  obtain ⟨p, q, hA0, hV, rfl, hfz, hnd⟩ := hW
  have hA : DataW.TrodAll enc Try.prog W 0 (fun _ => true) true Try.f4.params.toList args.toList ds p := hA0
  rw [Try.params4] at hA hval
  obtain ⟨v0, vs0, d0, ds0, p0, q0, hargs, rfl, rfl, h0, r0⟩ := trodAll_cons hA
  obtain ⟨v1, vs1, d1, ds1, p1, q1, rfl, rfl, rfl, h1, r1⟩ := trodAll_cons r0
  obtain ⟨rfl, rfl, rfl⟩ := trodAll_nil r1
  obtain rfl : args = #[v0, v1] := by cases args; simp_all
  obtain ⟨rfl, rfl⟩ := trodVars_none hV
  have k0 := h0
  have lt0 : ∀ x ∈ p0, x.block < W.heap.size := by obtain ⟨m, hm⟩ := k0; exact DataW.trod_lt m _ _ _ hm
  have k1 := h1
  have lt1 : ∀ x ∈ p1, x.block < W.heap.size := by obtain ⟨m, hm⟩ := k1; exact DataW.trod_lt m _ _ _ hm
  obtain ⟨told, rfl⟩ := open_seven (hval 0 37 v0 rfl rfl) h0
  obtain ⟨n, rfl, rfl, rfl, w1⟩ := open_int Try.underlying3 (hval 1 3 v1 rfl rfl) h1
  clear hA0 hval0
  refine (defaults_calls W told n (mx_of hsh)).mono fun e W' ⟨he, bel⟩ => ?_
  subst he
  have t0 := Below.trod laidOut (by kernel_rfl) (of_decide_eq_true (by kernel_rfl)) k0 bel lt0
  have t1 := Below.trod laidOut (by kernel_rfl) (of_decide_eq_true (by kernel_rfl)) k1 bel lt1
  exact ⟨_, rfl, _, _, _, [], _, [], hW', trodAll_mk1 (shut_bool Try.underlying4 _), (trodAll_cons_mk t0 (trodAll_cons_mk t1 trodAll_mk0)), rfl, bel.frame _, fun h => by cases h⟩

theorem powerDefaults_proved : Rows.PowerDefaultsSaid :=
  OpenClaim.holds_of_wide 4 Try.f4 rfl rfl rfl rfl rfl rfl rfl ⟨rfl, rfl, rfl, rfl, rfl⟩ rfl rfl rfl rfl rfl (by kernel_rfl) Try.func4 (by kernel_rfl)
    (of_decide_eq_true (by kernel_rfl)) (by unfold Func.isWrapper; first | (rw [if_pos (by decide +kernel)]; kernel_rfl) | (rw [if_neg (by decide +kernel)]; exact ⟨rfl, rfl⟩))
    (fun os started H enc _ => lifted os started H enc)
#print axioms powerDefaults_proved
end Go.Proofs.Ytiehdfokcnphdaa.powerDefaults
namespace Go.Proofs.Ytiehdfokcnphdaa
theorem powerDefaults_said : Rows.PowerDefaultsSaid := powerDefaults.powerDefaults_proved
#print axioms powerDefaults_said
end Go.Proofs.Ytiehdfokcnphdaa
