/-
  DERIVED. GIVEN WITH THE SEED: THE CARDS: each row of YtiopngpkfhgbpaaDoorRows.lean that lists a variable, with what it lists TIED to the program's text (the seventh form; the later family's looks); each row that meets fmt, with fmt's text TOLD by the authors' own Lean function (tested against real Go, not proved from fmt's source: count such statements apart). THE CARD IS WHAT COUNTS. Prove the row's statement (the work); the ties are given (YtiopngpkfhgbpaaDoorTie.lean); close each card by the builder's one call (the guide's Derived/Test/ToyasCard.lean, 'card_holds'). Laid BY PROGRAM, IN A SANDBOX (cutbox-door.mjs). By AI agents, Wed Nov 11 2026. No macro, syntax, notation, axiom, sorry.
-/
import Derived.Test.YtiopngpkfhgbpaaDoorRows
import GoSem.ClaimSeven
namespace Go.Proofs.YtiopngpkfhgbpaaDoor
namespace Rows

/-- THE TIED CARD OF 'decklelaw10.BatchOne'. -/
def batchOneCard : Claim7 := { stood := { row := batchOneRow, standIns := [], harness := (true, "ce63295c0537862497342ddf589084da501f2d3d17293758090e650c2e3cc552"), looks := true }, kinds := [], alts := [], laidByText := true, laidKinds := [.data, .widerDeep, .pinned], laidTests := true, laidLooks := .later }
def BatchOneCardSaid : Prop := Claim7.holds Tryd.pinned (.plain (OpenSpec.ofChange batchOneSpec)) batchOneCard

/-- THE SECOND FORM's CARD OF 'decklelaw10.BatchOne'. -/
def batchOneUptoCard : Claim7 := { stood := { row := batchOneUptoRow, standIns := [], harness := (true, "ce63295c0537862497342ddf589084da501f2d3d17293758090e650c2e3cc552"), looks := true }, kinds := [], alts := [], laidByText := true, laidKinds := [.data, .widerDeep, .pinned], laidTests := true, laidLooks := .later }
def BatchOneUptoCardSaid : Prop := Claim7.holds Tryd.pinned (.plain (OpenSpec.upto batchOneSpec)) batchOneUptoCard
end Rows
end Go.Proofs.YtiopngpkfhgbpaaDoor
