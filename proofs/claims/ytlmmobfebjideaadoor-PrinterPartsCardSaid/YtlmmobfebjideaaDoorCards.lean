/-
  DERIVED. GIVEN WITH THE SEED: THE CARDS: each row of YtlmmobfebjideaaDoorRows.lean that lists a variable, with what it lists TIED to the program's text (the seventh form; the later family's looks); each row that meets fmt, with fmt's text TOLD by the authors' own Lean function (tested against real Go, not proved from fmt's source: count such statements apart). THE CARD IS WHAT COUNTS. Prove the row's statement (the work); the ties are given (YtlmmobfebjideaaDoorTie.lean); close each card by the builder's one call (the guide's Derived/Test/ToyasCard.lean, 'card_holds'). Laid BY PROGRAM, IN A SANDBOX (cutbox-door.mjs). By AI agents, Wed Nov 11 2026. No macro, syntax, notation, axiom, sorry.
-/
import Derived.Test.YtlmmobfebjideaaDoorRows
import GoSem.ClaimSeven
namespace Go.Proofs.YtlmmobfebjideaaDoor
namespace Rows

/-- THE TIED CARD OF 'ontimelaw14.PrinterParts'. -/
def printerPartsCard : Claim7 := { stood := { row := printerPartsRow, standIns := [], harness := (true, "89b95ac6abab4cbd654d3b1acc1952a427efe32f73664541d87b6bd2f6e1d00e"), looks := false }, kinds := [], alts := [], laidByText := true, laidKinds := [.data, .data, .data, .data, .listed, .data], laidTests := true, laidLooks := .later }
def PrinterPartsCardSaid : Prop := Claim7.holds Tryd.pinned (.plain (OpenSpec.ofChange printerPartsSpec)) printerPartsCard

/-- THE TIED CARD OF 'ontimelaw14.PrinterLines'. -/
def printerLinesCard : Claim7 := { stood := { row := printerLinesRow, standIns := [], harness := (true, "89b95ac6abab4cbd654d3b1acc1952a427efe32f73664541d87b6bd2f6e1d00e"), looks := false }, kinds := [], alts := [], laidByText := true, laidKinds := [.data, .data, .data, .data, .listed, .data], laidTests := true, laidLooks := .later }
def PrinterLinesCardSaid : Prop := Claim7.holds Tryd.pinned (.plain (OpenSpec.ofChange printerLinesSpec)) printerLinesCard

/-- THE SECOND FORM's CARD OF 'ontimelaw14.PrinterParts'. -/
def printerPartsUptoCard : Claim7 := { stood := { row := printerPartsUptoRow, standIns := [], harness := (true, "89b95ac6abab4cbd654d3b1acc1952a427efe32f73664541d87b6bd2f6e1d00e"), looks := false }, kinds := [], alts := [], laidByText := true, laidKinds := [.data, .data, .data, .data, .listed, .data], laidTests := true, laidLooks := .later }
def PrinterPartsUptoCardSaid : Prop := Claim7.holds Tryd.pinned (.plain (OpenSpec.upto printerPartsSpec)) printerPartsUptoCard

/-- THE SECOND FORM's CARD OF 'ontimelaw14.PrinterLines'. -/
def printerLinesUptoCard : Claim7 := { stood := { row := printerLinesUptoRow, standIns := [], harness := (true, "89b95ac6abab4cbd654d3b1acc1952a427efe32f73664541d87b6bd2f6e1d00e"), looks := false }, kinds := [], alts := [], laidByText := true, laidKinds := [.data, .data, .data, .data, .listed, .data], laidTests := true, laidLooks := .later }
def PrinterLinesUptoCardSaid : Prop := Claim7.holds Tryd.pinned (.plain (OpenSpec.upto printerLinesSpec)) printerLinesUptoCard
end Rows
end Go.Proofs.YtlmmobfebjideaaDoor
