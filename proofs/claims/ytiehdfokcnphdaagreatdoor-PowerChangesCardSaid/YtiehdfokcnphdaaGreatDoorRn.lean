/- What Tell tells of any error. -/
import Derived.Test.YtiehdfokcnphdaaGreatDoorTm
import Derived.BigRegion
import Derived.Deep.RegionHeld3
set_option linter.unusedVariables false
namespace Go.Proofs.YtiehdfokcnphdaaGreatDoor
open Go.RowKit

def pathOf : Er → List UInt8
  | none => []
  | some (p, _) => pathL p
theorem tell_calls (w : World) (Q : Nat → Prop) (v : Value) (x : Er) (h : ErrV w Q v x) (het : Et w) (hp : (pathOf x).length ≤ 1000000) :
    Calls Tryz.prog 9 #[v] w fun e w' => e = .returned (erV x) ∧ Below w.heap.size w w' := by
  cases x with
  | none =>
    have : v = .nilIface := h
    subst this
    exact tell_nil w
  | some x => exact tell_flt w Q v x.1 x.2 h het hp
end Go.Proofs.YtiehdfokcnphdaaGreatDoor
