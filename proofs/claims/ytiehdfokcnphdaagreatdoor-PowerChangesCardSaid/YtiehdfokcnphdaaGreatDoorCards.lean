/-
  DERIVED. GIVEN WITH THE SEED: THE CARDS: each row of YtiehdfokcnphdaaGreatDoorRows.lean that lists a variable, with what it lists TIED to the program's text (the seventh form; the later family's looks); each row that meets fmt, with fmt's text TOLD by the authors' own Lean function (tested against real Go, not proved from fmt's source: count such statements apart). THE CARD IS WHAT COUNTS. Prove the row's statement (the work); the ties are given (YtiehdfokcnphdaaGreatDoorTie.lean); close each card by the builder's one call (the guide's Derived/Test/ToyasCard.lean, 'card_holds'). Laid BY PROGRAM, IN A SANDBOX (cutbox-door.mjs). By AI agents, Wed Nov 11 2026. No macro, syntax, notation, axiom, sorry.
-/
import Derived.Test.YtiehdfokcnphdaaGreatDoorRows
import GoSem.ClaimSeven
namespace Go.Proofs.YtiehdfokcnphdaaGreatDoor
namespace Rows

/-- THE TIED CARD OF 'enfiladelaw09.PowerChanges'. -/
def powerChangesCard : Claim7 := { stood := { row := powerChangesRow, standIns := [], harness := (true, "de7ba64630dc5ba7a5bcf556b90c7618ca6eba3b5836839a867ccf822d0643f3"), looks := true }, kinds := [], alts := [], laidByText := true, laidKinds := [.handle], laidTests := true, laidLooks := .later }
def PowerChangesCardSaid : Prop := Claim7.holds Tryz.pinned (.plain (OpenSpec.ofChange powerChangesSpec)) powerChangesCard

/-- THE SECOND FORM's CARD OF 'enfiladelaw09.PowerChanges'. -/
def powerChangesUptoCard : Claim7 := { stood := { row := powerChangesUptoRow, standIns := [], harness := (true, "de7ba64630dc5ba7a5bcf556b90c7618ca6eba3b5836839a867ccf822d0643f3"), looks := true }, kinds := [], alts := [], laidByText := true, laidKinds := [.handle], laidTests := true, laidLooks := .later }
def PowerChangesUptoCardSaid : Prop := Claim7.holds Tryz.pinned (.plain (OpenSpec.upto powerChangesSpec)) powerChangesUptoCard
end Rows
end Go.Proofs.YtiehdfokcnphdaaGreatDoor
