/-
  DERIVED. GIVEN WITH THE SEED: THE CARDS: each row of YtefacagkjcmeeaaDoorRows.lean that lists a variable, with what it lists TIED to the program's text (the seventh form; the later family's looks); each row that meets fmt, with fmt's text TOLD by the authors' own Lean function (tested against real Go, not proved from fmt's source: count such statements apart). THE CARD IS WHAT COUNTS. Prove the row's statement (the work); the ties are given (YtefacagkjcmeeaaDoorTie.lean); close each card by the builder's one call (the guide's Derived/Test/ToyasCard.lean, 'card_holds'). Laid BY PROGRAM, IN A SANDBOX (cutbox-door.mjs). By AI agents, Wed Nov 11 2026. No macro, syntax, notation, axiom, sorry.
-/
import Derived.Test.YtefacagkjcmeeaaDoorRows
import GoSem.ClaimSeven
namespace Go.Proofs.YtefacagkjcmeeaaDoor
namespace Rows

/-- THE TIED CARD OF 'enfiladelaw22.PageKeeps'. -/
def pageKeepsCard : Claim7 := { stood := { row := pageKeepsRow, standIns := [], harness := (true, "1cab5192f94068ba0f3044c8e4693ffb8e2207e1eaab5877d94b9d6ac984129f"), looks := true }, kinds := [], alts := [], laidByText := true, laidKinds := [.data, .data, .data], laidTests := true, laidLooks := .later }
def PageKeepsCardSaid : Prop := Claim7.holds Tryd.pinned (.plain (OpenSpec.ofChange pageKeepsSpec)) pageKeepsCard

/-- THE TIED CARD OF 'enfiladelaw22.PageTokens'. -/
def pageTokensCard : Claim7 := { stood := { row := pageTokensRow, standIns := [], harness := (true, "1cab5192f94068ba0f3044c8e4693ffb8e2207e1eaab5877d94b9d6ac984129f"), looks := true }, kinds := [], alts := [], laidByText := true, laidKinds := [.data, .data, .data], laidTests := true, laidLooks := .later }
def PageTokensCardSaid : Prop := Claim7.holds Tryd.pinned (.plain (OpenSpec.ofChange pageTokensSpec)) pageTokensCard

/-- THE TIED CARD OF 'enfiladelaw22.PageClears'. -/
def pageClearsCard : Claim7 := { stood := { row := pageClearsRow, standIns := [], harness := (true, "1cab5192f94068ba0f3044c8e4693ffb8e2207e1eaab5877d94b9d6ac984129f"), looks := true }, kinds := [], alts := [], laidByText := true, laidKinds := [.data, .data, .data], laidTests := true, laidLooks := .later }
def PageClearsCardSaid : Prop := Claim7.holds Tryd.pinned (.plain (OpenSpec.ofChange pageClearsSpec)) pageClearsCard

/-- THE SECOND FORM's CARD OF 'enfiladelaw22.PageKeeps'. -/
def pageKeepsUptoCard : Claim7 := { stood := { row := pageKeepsUptoRow, standIns := [], harness := (true, "1cab5192f94068ba0f3044c8e4693ffb8e2207e1eaab5877d94b9d6ac984129f"), looks := true }, kinds := [], alts := [], laidByText := true, laidKinds := [.data, .data, .data], laidTests := true, laidLooks := .later }
def PageKeepsUptoCardSaid : Prop := Claim7.holds Tryd.pinned (.plain (OpenSpec.upto pageKeepsSpec)) pageKeepsUptoCard

/-- THE SECOND FORM's CARD OF 'enfiladelaw22.PageTokens'. -/
def pageTokensUptoCard : Claim7 := { stood := { row := pageTokensUptoRow, standIns := [], harness := (true, "1cab5192f94068ba0f3044c8e4693ffb8e2207e1eaab5877d94b9d6ac984129f"), looks := true }, kinds := [], alts := [], laidByText := true, laidKinds := [.data, .data, .data], laidTests := true, laidLooks := .later }
def PageTokensUptoCardSaid : Prop := Claim7.holds Tryd.pinned (.plain (OpenSpec.upto pageTokensSpec)) pageTokensUptoCard

/-- THE SECOND FORM's CARD OF 'enfiladelaw22.PageClears'. -/
def pageClearsUptoCard : Claim7 := { stood := { row := pageClearsUptoRow, standIns := [], harness := (true, "1cab5192f94068ba0f3044c8e4693ffb8e2207e1eaab5877d94b9d6ac984129f"), looks := true }, kinds := [], alts := [], laidByText := true, laidKinds := [.data, .data, .data], laidTests := true, laidLooks := .later }
def PageClearsUptoCardSaid : Prop := Claim7.holds Tryd.pinned (.plain (OpenSpec.upto pageClearsSpec)) pageClearsUptoCard
end Rows
end Go.Proofs.YtefacagkjcmeeaaDoor
