/-
  DERIVED. GIVEN WITH THE SEED: THE CARDS: each row of YtgnoaeldmpbjmaaGreatDoorRows.lean that lists a variable, with what it lists TIED to the program's text (the seventh form; the later family's looks); each row that meets fmt, with fmt's text TOLD by the authors' own Lean function (tested against real Go, not proved from fmt's source: count such statements apart). THE CARD IS WHAT COUNTS. Prove the row's statement (the work); the ties are given (YtgnoaeldmpbjmaaGreatDoorTie.lean); close each card by the builder's one call (the guide's Derived/Test/ToyasCard.lean, 'card_holds'). Laid BY PROGRAM, IN A SANDBOX (cutbox-door.mjs). By AI agents, Wed Nov 11 2026. No macro, syntax, notation, axiom, sorry.
-/
import Derived.Test.YtgnoaeldmpbjmaaGreatDoorRows
import GoSem.ClaimSeven
namespace Go.Proofs.YtgnoaeldmpbjmaaGreatDoor
namespace Rows

/-- THE TIED CARD OF 'enfiladelaw17.AliasMains'. -/
def aliasMainsCard : Claim7 := { stood := { row := aliasMainsRow, standIns := [], harness := (true, "09a643e562a6485f03f46c0d3a5335cfb5c45e7056630068e8ba6f6698a166ed"), looks := true }, kinds := [], alts := [], laidByText := true, laidKinds := [.handle], laidTests := true, laidLooks := .later }
def AliasMainsCardSaid : Prop := Claim7.holds Tryz.pinned (.plain (OpenSpec.ofChange aliasMainsSpec)) aliasMainsCard

/-- THE TIED CARD OF 'enfiladelaw17.AliasPlays'. -/
def aliasPlaysCard : Claim7 := { stood := { row := aliasPlaysRow, standIns := [], harness := (true, "09a643e562a6485f03f46c0d3a5335cfb5c45e7056630068e8ba6f6698a166ed"), looks := true }, kinds := [], alts := [], laidByText := true, laidKinds := [.handle], laidTests := true, laidLooks := .later }
def AliasPlaysCardSaid : Prop := Claim7.holds Tryz.pinned (.plain (OpenSpec.ofChange aliasPlaysSpec)) aliasPlaysCard

/-- THE TIED CARD OF 'enfiladelaw17.AliasParts'. -/
def aliasPartsCard : Claim7 := { stood := { row := aliasPartsRow, standIns := [], harness := (true, "09a643e562a6485f03f46c0d3a5335cfb5c45e7056630068e8ba6f6698a166ed"), looks := true }, kinds := [], alts := [], laidByText := true, laidKinds := [.handle], laidTests := true, laidLooks := .later }
def AliasPartsCardSaid : Prop := Claim7.holds Tryz.pinned (.plain (OpenSpec.ofChange aliasPartsSpec)) aliasPartsCard

/-- THE SECOND FORM's CARD OF 'enfiladelaw17.AliasMains'. -/
def aliasMainsUptoCard : Claim7 := { stood := { row := aliasMainsUptoRow, standIns := [], harness := (true, "09a643e562a6485f03f46c0d3a5335cfb5c45e7056630068e8ba6f6698a166ed"), looks := true }, kinds := [], alts := [], laidByText := true, laidKinds := [.handle], laidTests := true, laidLooks := .later }
def AliasMainsUptoCardSaid : Prop := Claim7.holds Tryz.pinned (.plain (OpenSpec.upto aliasMainsSpec)) aliasMainsUptoCard

/-- THE SECOND FORM's CARD OF 'enfiladelaw17.AliasPlays'. -/
def aliasPlaysUptoCard : Claim7 := { stood := { row := aliasPlaysUptoRow, standIns := [], harness := (true, "09a643e562a6485f03f46c0d3a5335cfb5c45e7056630068e8ba6f6698a166ed"), looks := true }, kinds := [], alts := [], laidByText := true, laidKinds := [.handle], laidTests := true, laidLooks := .later }
def AliasPlaysUptoCardSaid : Prop := Claim7.holds Tryz.pinned (.plain (OpenSpec.upto aliasPlaysSpec)) aliasPlaysUptoCard

/-- THE SECOND FORM's CARD OF 'enfiladelaw17.AliasParts'. -/
def aliasPartsUptoCard : Claim7 := { stood := { row := aliasPartsUptoRow, standIns := [], harness := (true, "09a643e562a6485f03f46c0d3a5335cfb5c45e7056630068e8ba6f6698a166ed"), looks := true }, kinds := [], alts := [], laidByText := true, laidKinds := [.handle], laidTests := true, laidLooks := .later }
def AliasPartsUptoCardSaid : Prop := Claim7.holds Tryz.pinned (.plain (OpenSpec.upto aliasPartsSpec)) aliasPartsUptoCard
end Rows
end Go.Proofs.YtgnoaeldmpbjmaaGreatDoor
