/- Errors: a code, behind the fields in which it is. -/
import Derived.Test.YtiehdfokcnphdaaGreatDoorProg
import Derived.Test.YtiehdfokcnphdaaGreatDoorBx
namespace Go.Proofs.YtiehdfokcnphdaaGreatDoor
open Go.RowKit

/-- An error's value in memory: a code, or a fault about another error; what was made lies in blocks of which P holds. -/
inductive Flt (w : World) (P : Nat → Prop) : Value → List ByteArray → Int → Prop where
  | code (c : Int) : Flt w P (.iface 66 (.int .i64 c)) [] c
  | fault (g : Nat) (f : ByteArray) (v : Value) (p : List ByteArray) (c : Int) (hg : w.heap[g]? = some (.cells #[.int .i64 (-1), .string f, v] 74 (0, 0))) (hP : P g) (h : Flt w P v p c) :
    Flt w P (.iface 71 (.pointer (some ⟨g, 0, none⟩))) (f :: p) c
theorem Flt.same {w w' : World} {P : Nat → Prop} {v : Value} {p : List ByteArray} {c : Int} (h : Flt w P v p c) (hb : ∀ g, g < w.heap.size → P g → w'.heap[g]? = w.heap[g]?) : Flt w' P v p c := by
  induction h with
  | code c => exact .code c
  | fault g f v p c hg hP h ih => exact .fault g f v p c ((hb g (blk_lt hg) hP).trans hg) hP ih
theorem Flt.mono {w : World} {P Q : Nat → Prop} {v : Value} {p : List ByteArray} {c : Int} (h : Flt w P v p c) (hq : ∀ g, g < w.heap.size → P g → Q g) : Flt w Q v p c := by
  induction h with
  | code c => exact .code c
  | fault g f v p c hg hP h ih => exact .fault g f v p c hg (hq g (blk_lt hg) hP) ih
/-- What an error is: nothing, or the fields and the code. -/
abbrev Er := Option (List ByteArray × Int)
def ErrV (w : World) (P : Nat → Prop) (v : Value) : Er → Prop
  | none => v = .nilIface
  | some (p, c) => Flt w P v p c
theorem ErrV.same {w w' : World} {P : Nat → Prop} {v : Value} {x : Er} (h : ErrV w P v x) (hb : ∀ g, g < w.heap.size → P g → w'.heap[g]? = w.heap[g]?) : ErrV w' P v x := by
  cases x with
  | none => exact h
  | some x => exact Flt.same h hb
theorem ErrV.mono {w : World} {P Q : Nat → Prop} {v : Value} {x : Er} (h : ErrV w P v x) (hq : ∀ g, g < w.heap.size → P g → Q g) : ErrV w Q v x := by
  cases x with
  | none => exact h
  | some x => exact Flt.mono h hq
theorem ErrV.code (w : World) (P : Nat → Prop) (c : Int) : ErrV w P (.iface 66 (.int .i64 c)) (some ([], c)) := Flt.code c
theorem ErrV.below {w w' : World} {P : Nat → Prop} {v : Value} {x : Er} (h : ErrV w P v x) (hb : Below w.heap.size w w') : ErrV w' P v x := h.same (fun g hg _ => hb.block g hg)
theorem ErrV.nil {w : World} {P : Nat → Prop} {v : Value} {x : Er} (h : ErrV w P v x) : (v = .nilIface ∧ x = none) ∨ (∃ t u, v = .iface t u) ∧ x ≠ none := by
  cases x with
  | none => exact .inl ⟨h, rfl⟩
  | some x =>
    obtain ⟨p, c⟩ := x
    refine .inr ⟨?_, by simp⟩
    have h' : Flt w P v p c := h
    cases h' with
    | code c => exact ⟨_, _, rfl⟩
    | fault g f v p c hg hP h => exact ⟨_, _, rfl⟩
end Go.Proofs.YtiehdfokcnphdaaGreatDoor
