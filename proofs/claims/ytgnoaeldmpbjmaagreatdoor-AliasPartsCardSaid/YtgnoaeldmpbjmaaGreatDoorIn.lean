/- What came in, opened: a list of acts; the listed variable's cell. -/
import Derived.Test.YtgnoaeldmpbjmaaGreatDoorRows
import Derived.Test.YtgnoaeldmpbjmaaGreatDoorTie
import Derived.Test.YtgnoaeldmpbjmaaGreatDoorCards
import Derived.Test.YtgnoaeldmpbjmaaGreatDoorAc
import Derived.WalkKit
import Derived.ProofKit
import Derived.HandedShaped
import Derived.OpenShut
import Derived.ShutString
import Derived.ChangeOld
import Derived.Below
import Derived.SizedLaws
import Derived.Carry
import Derived.LaidMore
import Derived.LaidLaws
import Derived.LaidHandle
import Derived.Stop.Joined
import Derived.SevenTiedAt
import Derived.Lib.LaidTab
import Derived.Lib.SmallJoins
import Derived.ChangeMaps5
set_option linter.unusedVariables false
namespace Go.Proofs.YtgnoaeldmpbjmaaGreatDoor
open Go.RowKit Go.ChangeShapes Go.WideShapes Go.ChangeAt

theorem cellsA : Tryz.prog.cellsOf 40 = 5 := by kernel_rfl
theorem cellsS : Tryz.prog.cellsOf 9 = 1 := by kernel_rfl
theorem cellsB : Tryz.prog.cellsOf 4 = 1 := by kernel_rfl
theorem list5 (l : List Value) (h : l.length = 5) : ∃ a b c d e, l = [a, b, c, d, e] := by
  match l, h with
  | [a, b, c, d, e], _ => exact ⟨a, b, c, d, e, rfl⟩
theorem collectA {Q : Nat → Ac → Prop} : ∀ len : Nat, (∀ i, i < len → ∃ y : Ac, Q i y) → ∃ l : List Ac, l.length = len ∧ ∀ (i : Nat) (y : Ac), l[i]? = some y → Q i y
  | 0, _ => ⟨[], rfl, by simp⟩
  | len + 1, h => by
    obtain ⟨l, hl, hall⟩ := collectA len (fun i hi => h i (by omega))
    obtain ⟨y, hy⟩ := h len (by omega)
    refine ⟨l ++ [y], by simp [hl], fun i z hz => ?_⟩
    by_cases hi : i < l.length
    · rw [List.getElem?_append_left hi] at hz
      exact hall i z hz
    · rw [List.getElem?_append_right (by omega)] at hz
      have hil : i = len := by
        have := (List.getElem?_eq_some_iff.1 hz).1
        simp at this; omega
      subst hil
      simp [hl] at hz
      subst hz
      exact hy
theorem open_acts {H : Type} {enc : TypeId × Value → H} {W : World} {held : Bool} {fuel : Nat} {cs : List Value} {x : DataW H × List MemPlace} (h : DataW.trod enc Tryz.prog W 0 (fun _ => true) held fuel 22 cs = some x) :
    ∃ (a : Option Addr) (cap : Nat) (l : List Ac), cs = [.slice a l.length cap] ∧ InA W a l.length l := by
  rcases DataW.trod_slice Tryz.underlying22 h with ⟨hcs, _⟩ | ⟨a, len, cap, elems, rest, n, _, hcs, _, _, hlc, hcm, hel, hget, _, _⟩
  · exact ⟨none, 0, [], hcs, rfl, by simp, by simp, fun h => absurd h (by simp)⟩
  · have hone : ∀ i, i < len → ∃ y : Ac, (y.a.size ≤ maxLen ∧ y.r.size ≤ maxLen ∧ y.b.size ≤ maxLen) ∧ W.cell? (a.add (i * 5)) = some (.bool y.drop) ∧ W.cell? ⟨(a.add (i * 5)).block, (a.add (i * 5)).off + 1, none⟩ = some (.bool y.may) ∧ W.cell? ⟨(a.add (i * 5)).block, (a.add (i * 5)).off + 2, none⟩ = some (.string y.a) ∧
        W.cell? ⟨(a.add (i * 5)).block, (a.add (i * 5)).off + 3, none⟩ = some (.string y.r) ∧ W.cell? ⟨(a.add (i * 5)).block, (a.add (i * 5)).off + 4, none⟩ = some (.string y.b) := by
      intro i hi
      have h1 := hget i hi
      rw [cellsA, List.getElem?_eq_getElem (by omega)] at h1
      obtain ⟨c, hc, htr⟩ := Option.bind_eq_some_iff.1 h1
      obtain ⟨_, hcl, hcc⟩ := World.cells?_some hc
      obtain ⟨c0, c1, c2, c3, c4, rfl⟩ := list5 c hcl
      obtain ⟨xs, m, _, _, _, hxl, hg⟩ := DataW.trod_struct Tryz.underlying40 htr
      have hxl5 : xs.length = 5 := hxl
      have g0 : DataW.trod enc Tryz.prog W 0 (fun _ => true) held m 4 (([c0, c1, c2, c3, c4].drop 0).take (Tryz.prog.cellsOf 4)) = xs[0]? := hg 0 _ rfl
      have g1 : DataW.trod enc Tryz.prog W 0 (fun _ => true) held m 4 (([c0, c1, c2, c3, c4].drop 1).take (Tryz.prog.cellsOf 4)) = xs[1]? := hg 1 _ rfl
      have g2 : DataW.trod enc Tryz.prog W 0 (fun _ => true) held m 9 (([c0, c1, c2, c3, c4].drop 2).take (Tryz.prog.cellsOf 9)) = xs[2]? := hg 2 _ rfl
      have g3 : DataW.trod enc Tryz.prog W 0 (fun _ => true) held m 9 (([c0, c1, c2, c3, c4].drop 3).take (Tryz.prog.cellsOf 9)) = xs[3]? := hg 3 _ rfl
      have g4 : DataW.trod enc Tryz.prog W 0 (fun _ => true) held m 9 (([c0, c1, c2, c3, c4].drop 4).take (Tryz.prog.cellsOf 9)) = xs[4]? := hg 4 _ rfl
      rw [cellsB, List.getElem?_eq_getElem (by omega)] at g0 g1
      rw [cellsS, List.getElem?_eq_getElem (by omega)] at g2 g3 g4
      obtain ⟨b0, e0, _⟩ := DataW.trod_bool Tryz.underlying4 g0
      obtain ⟨b1, e1, _⟩ := DataW.trod_bool Tryz.underlying4 g1
      obtain ⟨s2, e2, _, z2⟩ := DataW.trod_string Tryz.underlying9 g2
      obtain ⟨s3, e3, _, z3⟩ := DataW.trod_string Tryz.underlying9 g3
      obtain ⟨s4, e4, _, z4⟩ := DataW.trod_string Tryz.underlying9 g4
      simp at e0 e1 e2 e3 e4
      subst e0 e1 e2 e3 e4
      have e : ∀ k, (a.add (i * 5)).add k = ⟨(a.add (i * 5)).block, (a.add (i * 5)).off + k, none⟩ ∨ k = 0 := by
        intro k
        rcases Nat.eq_zero_or_pos k with h | h
        · exact .inr h
        · refine .inl ?_
          rw [Addr.add]; simp; omega
      have q : ∀ k v, W.cell? ((a.add (i * 5)).add k) = some v → 0 < k → W.cell? ⟨(a.add (i * 5)).block, (a.add (i * 5)).off + k, none⟩ = some v := by
        intro k v h hk
        rcases e k with h1 | h1
        · rw [h1] at h; exact h
        · omega
      refine ⟨⟨b0, b1, s2, s3, s4⟩, ⟨z2, z3, z4⟩, ?_, q 1 _ (by simpa using hcc 1 (by simp)) (by omega), q 2 _ (by simpa using hcc 2 (by simp)) (by omega), q 3 _ (by simpa using hcc 3 (by simp)) (by omega), q 4 _ (by simpa using hcc 4 (by simp)) (by omega)⟩
      have := hcc 0 (by simp)
      have e : (a.add (i * 5)).add 0 = a.add (i * 5) := by
        rw [Addr.add]; simp
      rw [e] at this
      simpa using this
    obtain ⟨l, hl, hall⟩ := collectA len hone
    subst hl
    refine ⟨some a, cap, l, hcs, rfl, by unfold maxLen at hcm; omega, fun y hy => ?_, fun hpos => ⟨a, rfl, ?_, fun i y hy => (hall i y hy).2⟩⟩
    · obtain ⟨i, hi⟩ := List.mem_iff_getElem?.1 hy
      have := (hall i y hi).1
      unfold maxLen at this
      exact this
    · have := (hall 0 (l[0]'hpos) (List.getElem?_eq_getElem hpos)).2.1
      have hb := World.block_lt_of_cell? W _ this
      rw [addr_add_block] at hb
      exact hb

theorem own : ownKnob Tryz.prog.godebug = none := by kernel_rfl
theorem laidOut : laidOutB Tryz.prog = true := by kernel_rfl
abbrev laidL : List (String × DataW Unit) := [("errors.errorType", Rows.laid_errors_errorType)]
theorem et_named : Tryz.prog.globalNamed "errors.errorType" = some 0 := by kernel_rfl
theorem rt_cut : (Tryz.prog.cutTypes.find? (·.1 == "internal/reflectlite.rtype")).map (·.2) = some 160 := by kernel_rfl
theorem err_row : ((List.range Tryz.prog.types.size).filter fun t => Tryz.prog.rowNamed t [101, 114, 114, 111, 114]) = [29] := by kernel_rfl
/-- What the listed variable gives a walk. -/
theorem et_of {W : World} (h : laidMetH Tryz.prog laidL W) : Et W := by
  have h' : laidMet Tryz.prog [] W ∧ handlesMet Tryz.prog laidL W := h
  obtain ⟨name, u, ty, e1, e2, e3, e4, e5⟩ := h'.2 _ (List.mem_singleton.2 rfl)
  have en : name = [101, 114, 114, 111, 114] := (Option.some.inj e1).symm
  subst en
  obtain rfl := Option.some.inj (rt_cut.symm.trans e2)
  have hm : ty ∈ (List.range Tryz.prog.types.size).filter fun t => Tryz.prog.rowNamed t [101, 114, 114, 111, 114] := List.mem_filter.2 ⟨List.mem_range.2 e3, e4⟩
  rw [err_row] at hm
  obtain rfl := List.mem_singleton.1 hm
  exact World.var?_cell et_named e5 0
theorem mx_of {w : World} (h : w.ShapedOpen Tryz.prog) : Mx w :=
  Go.Proofs.cell_of_shapedOpen_int (zero := #[.int .i64 0]) (t := 3) h (of_decide_eq_true (by kernel_rfl)) (by kernel_rfl) rfl (by kernel_rfl) (by kernel_rfl) Tryz.underlying3
/-- A world that meets the condition. -/
noncomputable def laidWorld (os : Os) : World :=
  let w0 := World.holding Tryz.prog os ⟨#[], #[], []⟩
  { w0 with heap := w0.heap.modify 0 fun
      | .cells _ t frozen => .cells #[.iface 160 (.agg #[typeHandle Tryz.prog 29])] t frozen
      | o => o }
theorem laidWorld_met (os : Os) (args : Array Value) : laidMetH Tryz.prog laidL ((laidWorld os).forCall (fun _ _ => 0) ⟨#[], args, []⟩).memory :=
  laidMetH_of_parts (laidMet_nil _ _) (by kernel_rfl)
/-- The wrap, with the listed variables' condition and the world's shape both handed on. -/
theorem returns_laid_shaped {H : Type} {enc : TypeId × Value → H} {a : Assume} {C : Checked} {os : Os} {f : FuncId} {fn : Func} {s : ChangeSpec} {conds : List PathCond} {apart fresh handsOn again : Bool} {X : World → Array Value → Prop}
    (hX : ∀ (w w' : World) (args : Array Value), w.heap = w'.heap → X w args → X w' args)
    (own : ownKnob C.prog.godebug = none) (started : os.Started) (noInit : C.prog.inits.idxOf? f = none) (hfn : C.prog.funcs[f]? = some fn)
    (witness : ∃ (w : World) (tape : Tape) (i : Input), w.os = os ∧ (w.forCall tape i).Shaped C.prog ∧ i.vars = [] ∧ Input.okWide C.prog (w.forCall tape i) .any w.heap.size f i ∧
      ((s.pre enc C.prog fn conds apart (w.forCall tape i).memory i.args ∧ X (w.forCall tape i).memory i.args) ∧ sizedMet enc C.prog fn (OpenSpec.ofChange s) apart (w.forCall tape i).memory i.args) ∧ a.holds C.prog (lone (Frame.enter C.prog f i.args .normal) [] (w.forCall tape i)))
    (contract : ∀ (W : World) (base : Nat) (args : Array Value) (ds gs : List (DataW H)) (before : List MemPlace),
      (∀ (j : Nat) t v, fn.params[j]? = some t → args[j]? = some v → Value.okWide C.prog W .any base t v) →
      DataW.Whole enc C.prog fn.params.toList s.vars apart W args.toList ds gs before → X W args → W.ShapedOpen C.prog →
      Calls C.prog f args W fun e W' => ∃ v, e = .returned v ∧ s.post enc C.prog fn apart fresh handsOn again W args v W') :
    ReturnsInHanded a C os f .any (fun w args => (s.pre enc C.prog fn conds apart w args ∧ X w args) ∧ sizedMet enc C.prog fn (OpenSpec.ofChange s) apart w args) (s.post enc C.prog fn apart fresh handsOn again) := by
  refine returnsInHanded_of_calls own started noInit witness fun w tape i _ hsh _ hok hpre _ => ?_
  obtain ⟨_, _, _, fn', hfn', _, _, _, _, hval⟩ := hok
  obtain rfl : fn' = fn := Option.some.inj (hfn'.symm.trans hfn)
  obtain ⟨⟨⟨ds, gs, before, hw, _⟩, hx⟩, _⟩ := hpre
  refine (contract (w.forCall tape i) w.heap.size i.args ds gs before hval (DataW.Whole.of_heap (w' := w.forCall tape i) (by rfl) hw) (hX _ _ _ (by rfl) hx) hsh).mono fun e W' ⟨v, he, hp⟩ => ?_
  subst he
  exact ChangeSpec.post_blind hp
end Go.Proofs.YtgnoaeldmpbjmaaGreatDoor
