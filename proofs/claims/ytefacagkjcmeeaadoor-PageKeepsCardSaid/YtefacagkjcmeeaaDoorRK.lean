/- PageKeeps, whatever the bytes that say how, the draws and the thing: the call returns true and its arguments read as they did. No condition beside the row's own: the three tables of the library's that the row lists read as the program's text lays them (the card ties them). -/
import Derived.Test.YtefacagkjcmeeaaDoorR0
import Derived.Test.YtefacagkjcmeeaaDoorK2
namespace Go.Proofs.YtefacagkjcmeeaaDoor.pageKeeps
open Go.ChangeShapes Go.WideShapes Go.ChangeAt Go.RowKit
set_option linter.unusedVariables false

theorem walk (W : World) (x0 x1 x2 : Int) (c0 : (Lit.int .u8 x0).wf = true) (c1 : (Lit.int .u8 x1).wf = true) (c2 : (Lit.int .u8 x2).wf = true) (a0 : Option Addr) (len0 cap0 : Nat) (z0 : List Int) (w0 : IsRow .u32 W a0 len0 cap0 z0) (hlc : len0 ≤ cap0) (a1 : Int) (hT : Tab W) :
    Calls Tryd.prog 3 #[.agg #[.int .u8 x0, .int .u8 x1, .int .u8 x2], .slice a0 len0 cap0, .int .i64 a1] W fun e w' => e = .returned (.bool true) ∧ Below W.heap.size W w' := by
  have b0 := u8_range c0
  have b1 := u8_range c1
  have b2 := u8_range c2
  obtain ⟨hn, hr, hwf⟩ := w0.reads
  by_cases hno : len0 = 0 ∨ 60 < len0
  · exact keeps_short W a0 len0 cap0 x0 x1 x2 a1 b0.1 b0.2 b1.1 b1.2 b2.1 b2.2 hn hT hno
  · refine keeps_calls W a0 len0 cap0 (fun j => z0.getD j 0) x0 x1 x2 a1 b0.1 b0.2 b1.1 b1.2 b2.1 b2.2 hn hlc hT hr (fun j => ?_) (by omega) (by omega)
    by_cases hj : j < z0.length
    · exact u32_range (hwf _ (by simp [List.getD, hj]))
    · simp [List.getD, hj]

theorem list3 (l : List Value) (h : l.length = 3) : ∃ a b c, l = [a, b, c] := by
  match l, h with
  | [a, b, c], _ => exact ⟨a, b, c, rfl⟩
theorem cells22 : Tryd.prog.cellsOf 22 = 3 := by kernel_rfl
theorem cells5 : Tryd.prog.cellsOf 5 = 1 := by kernel_rfl

set_option maxRecDepth 100000 in
theorem lifted (os : Os) (started : os.Started) (H : Type) (enc : TypeId × Value → H) :
    ReturnsInHanded {} Tryd.checked os 3 .any (fun w args => (Rows.pageKeepsSpec.pre enc Tryd.prog Tryd.f3 [] false w args ∧ laidMetH Tryd.prog laidL w) ∧ sizedMet enc Tryd.prog Tryd.f3 (OpenSpec.ofChange Rows.pageKeepsSpec) false w args)
      (Rows.pageKeepsSpec.post enc Tryd.prog Tryd.f3 false true false false) := by
  refine returnsInHanded_of_change_and (C := Tryd.checked) (X := fun w _ => laidMetH Tryd.prog laidL w) (fun _ _ _ hh h => h.of_heap hh) own started (by kernel_rfl) Tryd.func3
    (ChangeSpec.witness_shaped (enc := enc) (C := Tryd.checked) (os := os) (X := fun w _ => laidMetH Tryd.prog laidL w) false (World.doorLaid Tryd.prog 400 os) #[.agg #[.int .u8 0, .int .u8 0, .int .u8 0], .slice none 0 0, .int .i64 0] 8 rfl (World.shaped_of_RefB (by kernel_rfl) (by kernel_rfl)) (by kernel_rfl) (by kernel_rfl) (by kernel_rfl) (door_met os _)) ?_
  intro W base args ds gs before hval0 hW _ _ hL _
  have hval : ∀ (j : Nat) t v, Tryd.f3.params[j]? = some t → args[j]? = some v → Value.okWide Tryd.prog W .any base t v := hval0
  have hW' := hW
  obtain ⟨p, q, hA0, hV, rfl, hfz, hnd⟩ := hW
  have hA : DataW.TrodAll enc Tryd.prog W 0 (fun _ => true) true Tryd.f3.params.toList args.toList ds p := hA0
  rw [Tryd.params3] at hA hval
  obtain ⟨v0, vs0, d0, ds0, p0, q0, hargs, rfl, rfl, h0, r0⟩ := trodAll_cons hA
  obtain ⟨v1, vs1, d1, ds1, p1, q1, rfl, rfl, rfl, h1, r1⟩ := trodAll_cons r0
  obtain ⟨v2, vs2, d2, ds2, p2, q2, rfl, rfl, rfl, h2, r2⟩ := trodAll_cons r1
  obtain ⟨rfl, rfl, rfl⟩ := trodAll_nil r2
  obtain rfl : args = #[v0, v1, v2] := by cases args; simp_all
  obtain ⟨rfl, rfl⟩ := trodVars_none hV
  have k0 := h0
  have lt0 : ∀ x ∈ p0, x.block < W.heap.size := by obtain ⟨m, hm⟩ := k0; exact DataW.trod_lt m _ _ _ hm
  obtain ⟨cs, rfl, hsz, _⟩ : ∃ cs, v0 = .agg cs ∧ cs.size = Tryd.prog.cellsOf 22 ∧ Row.okWide Tryd.prog W .any base 22 cs := by
    have := hval 0 22 v0 rfl rfl
    simpa [Value.okWide, Tryd.underlying22] using this
  rw [cells22] at hsz
  obtain ⟨l⟩ := cs
  obtain ⟨e0, e1, e2, rfl⟩ := list3 l hsz
  obtain ⟨fuel0, hf0⟩ := h0
  obtain ⟨y0, y1, y2, m, _, hy0, hy1, hy2⟩ := trod_array3 Tryd.underlying22 cells5 hf0
  obtain ⟨x0, q00, rfl, c0⟩ := DataW.trod_int Tryd.underlying5 hy0
  obtain ⟨x1, q11, rfl, c1⟩ := DataW.trod_int Tryd.underlying5 hy1
  obtain ⟨x2, q22, rfl, c2⟩ := DataW.trod_int Tryd.underlying5 hy2
  simp at q00 q11 q22
  subst q00 q11 q22
  obtain ⟨a0, len0, cap0, rfl⟩ := okWide_slice Tryd.underlying23 (hval 1 23 v1 rfl rfl)
  have k1 := h1
  have lt1 : ∀ x ∈ p1, x.block < W.heap.size := by obtain ⟨m, hm⟩ := k1; exact DataW.trod_lt m _ _ _ hm
  obtain ⟨z0, w0, hlc⟩ : ∃ zs, IsRow .u32 W a0 len0 cap0 zs ∧ len0 ≤ cap0 := by
    obtain ⟨fuel, hf⟩ := h1
    rcases open_ints Tryd.underlying23 Tryd.underlying31 (by kernel_rfl) hf with ⟨hcs, _⟩ | ⟨x, l, c, zs, hcs, _, hl, hm, hz, _, hcell, hwz⟩
    · simp [Value.cells] at hcs
      obtain ⟨rfl, rfl, rfl⟩ := hcs
      exact ⟨[], .inl ⟨rfl, rfl, rfl, rfl⟩, Nat.le_refl _⟩
    · simp [Value.cells] at hcs
      obtain ⟨rfl, rfl, rfl⟩ := hcs
      exact ⟨zs, .inr ⟨_, rfl, hl, hm, by simpa using hz, hcell, hwz⟩, hl⟩
  obtain ⟨a1, rfl, rfl, rfl, w1⟩ := open_int Tryd.underlying3 (hval 2 3 v2 rfl rfl) h2
  clear hA0 hval0
  refine (walk W x0 x1 x2 c0 c1 c2 a0 len0 cap0 z0 w0 hlc a1 (of_laid hL)).mono fun e W' ⟨he, bel⟩ => ?_
  subst he
  have t0 := Below.trod laidOut (by kernel_rfl) (of_decide_eq_true (by kernel_rfl)) k0 bel lt0
  have t1 := Below.trod laidOut (by kernel_rfl) (of_decide_eq_true (by kernel_rfl)) k1 bel lt1
  exact ⟨_, rfl, _, _, _, [], _, [], hW', trodAll_mk1 (shut_bool Tryd.underlying4 _), (trodAll_cons_mk t0 (trodAll_cons_mk t1 (trodAll_cons_mk (shut_int Tryd.underlying3 w1) trodAll_mk0))), rfl, bel.frame _, fun h => by cases h⟩

theorem over : Rows.pageKeepsRow.holds Tryd.pinned (OpenSpec.ofChange Rows.pageKeepsSpec) :=
  OpenClaim.holds_of_wide 3 Tryd.f3 rfl rfl rfl rfl rfl rfl rfl ⟨rfl, rfl, rfl, rfl, rfl⟩ rfl rfl rfl rfl rfl (by kernel_rfl) Tryd.func3 (by kernel_rfl)
    (of_decide_eq_true (by kernel_rfl)) (by unfold Func.isWrapper; first | (rw [if_pos (by decide +kernel)]; kernel_rfl) | (rw [if_neg (by decide +kernel)]; exact ⟨rfl, rfl⟩))
    (fun os started H enc _ => lifted os started H enc)
theorem proved : Rows.PageKeepsSaid := over
#print axioms proved
end Go.Proofs.YtefacagkjcmeeaaDoor.pageKeeps
