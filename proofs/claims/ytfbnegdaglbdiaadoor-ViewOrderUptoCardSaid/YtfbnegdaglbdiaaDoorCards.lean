/-
  DERIVED. GIVEN WITH THE SEED: THE CARDS: each row of YtfbnegdaglbdiaaDoorRows.lean that lists a variable, with what it lists TIED to the program's text (the seventh form; the later family's looks); each row that meets fmt, with fmt's text TOLD by the authors' own Lean function (tested against real Go, not proved from fmt's source: count such statements apart). THE CARD IS WHAT COUNTS. Prove the row's statement (the work); the ties are given (YtfbnegdaglbdiaaDoorTie.lean); close each card by the builder's one call (the guide's Derived/Test/ToyasCard.lean, 'card_holds'). Laid BY PROGRAM, IN A SANDBOX (cutbox-door.mjs). By AI agents, Wed Nov 11 2026. No macro, syntax, notation, axiom, sorry.
-/
import Derived.Test.YtfbnegdaglbdiaaDoorRows
import GoSem.ClaimSeven
namespace Go.Proofs.YtfbnegdaglbdiaaDoor
namespace Rows

/-- THE TIED CARD OF 'decklelaw10.BatchOne'. -/
def batchOneCard : Claim7 := { stood := { row := batchOneRow, standIns := [], harness := (true, "8f44bd70987a2909fb6fcd76a2d2bbc172ebab483d6f96a17de70f76b11ad1bd"), looks := true }, kinds := [], alts := [], laidByText := true, laidKinds := [.data, .widerDeep, .pinned], laidTests := true, laidLooks := .later }
def BatchOneCardSaid : Prop := Claim7.holds Tryd.pinned (.plain (OpenSpec.ofChange batchOneSpec)) batchOneCard

/-- THE TIED CARD OF 'decklelaw12.EntryFolds'. -/
def entryFoldsCard : Claim7 := { stood := { row := entryFoldsRow, standIns := [], harness := (true, "8f44bd70987a2909fb6fcd76a2d2bbc172ebab483d6f96a17de70f76b11ad1bd"), looks := true }, kinds := [], alts := [], laidByText := true, laidKinds := [.data, .widerDeep, .pinned], laidTests := true, laidLooks := .later }
def EntryFoldsCardSaid : Prop := Claim7.holds Tryd.pinned (.plain (OpenSpec.ofChange entryFoldsSpec)) entryFoldsCard

/-- THE TIED CARD OF 'decklelaw12.EntrySigns'. -/
def entrySignsCard : Claim7 := { stood := { row := entrySignsRow, standIns := [], harness := (true, "8f44bd70987a2909fb6fcd76a2d2bbc172ebab483d6f96a17de70f76b11ad1bd"), looks := true }, kinds := [], alts := [], laidByText := true, laidKinds := [.data, .widerDeep, .pinned], laidTests := true, laidLooks := .later }
def EntrySignsCardSaid : Prop := Claim7.holds Tryd.pinned (.plain (OpenSpec.ofChange entrySignsSpec)) entrySignsCard

/-- THE TIED CARD OF 'decklelaw17.ViewResets'. -/
def viewResetsCard : Claim7 := { stood := { row := viewResetsRow, standIns := [], harness := (true, "8f44bd70987a2909fb6fcd76a2d2bbc172ebab483d6f96a17de70f76b11ad1bd"), looks := true }, kinds := [], alts := [], laidByText := true, laidKinds := [.data, .widerDeep, .pinned], laidTests := true, laidLooks := .later }
def ViewResetsCardSaid : Prop := Claim7.holds Tryd.pinned (.plain (OpenSpec.ofChange viewResetsSpec)) viewResetsCard

/-- THE TIED CARD OF 'decklelaw17.ViewOrder'. -/
def viewOrderCard : Claim7 := { stood := { row := viewOrderRow, standIns := [], harness := (true, "8f44bd70987a2909fb6fcd76a2d2bbc172ebab483d6f96a17de70f76b11ad1bd"), looks := true }, kinds := [], alts := [], laidByText := true, laidKinds := [.data, .widerDeep, .pinned], laidTests := true, laidLooks := .later }
def ViewOrderCardSaid : Prop := Claim7.holds Tryd.pinned (.plain (OpenSpec.ofChange viewOrderSpec)) viewOrderCard

/-- THE TIED CARD OF 'decklelaw17.ViewSplits'. -/
def viewSplitsCard : Claim7 := { stood := { row := viewSplitsRow, standIns := [], harness := (true, "8f44bd70987a2909fb6fcd76a2d2bbc172ebab483d6f96a17de70f76b11ad1bd"), looks := true }, kinds := [], alts := [], laidByText := true, laidKinds := [.data, .widerDeep, .pinned], laidTests := true, laidLooks := .later }
def ViewSplitsCardSaid : Prop := Claim7.holds Tryd.pinned (.plain (OpenSpec.ofChange viewSplitsSpec)) viewSplitsCard

/-- THE TIED CARD OF 'decklelaw17.ViewBare'. -/
def viewBareCard : Claim7 := { stood := { row := viewBareRow, standIns := [], harness := (true, "8f44bd70987a2909fb6fcd76a2d2bbc172ebab483d6f96a17de70f76b11ad1bd"), looks := true }, kinds := [], alts := [], laidByText := true, laidKinds := [.data, .widerDeep, .pinned], laidTests := true, laidLooks := .later }
def ViewBareCardSaid : Prop := Claim7.holds Tryd.pinned (.plain (OpenSpec.ofChange viewBareSpec)) viewBareCard

/-- THE SECOND FORM's CARD OF 'decklelaw10.BatchOne'. -/
def batchOneUptoCard : Claim7 := { stood := { row := batchOneUptoRow, standIns := [], harness := (true, "8f44bd70987a2909fb6fcd76a2d2bbc172ebab483d6f96a17de70f76b11ad1bd"), looks := true }, kinds := [], alts := [], laidByText := true, laidKinds := [.data, .widerDeep, .pinned], laidTests := true, laidLooks := .later }
def BatchOneUptoCardSaid : Prop := Claim7.holds Tryd.pinned (.plain (OpenSpec.upto batchOneSpec)) batchOneUptoCard

/-- THE SECOND FORM's CARD OF 'decklelaw12.EntryFolds'. -/
def entryFoldsUptoCard : Claim7 := { stood := { row := entryFoldsUptoRow, standIns := [], harness := (true, "8f44bd70987a2909fb6fcd76a2d2bbc172ebab483d6f96a17de70f76b11ad1bd"), looks := true }, kinds := [], alts := [], laidByText := true, laidKinds := [.data, .widerDeep, .pinned], laidTests := true, laidLooks := .later }
def EntryFoldsUptoCardSaid : Prop := Claim7.holds Tryd.pinned (.plain (OpenSpec.upto entryFoldsSpec)) entryFoldsUptoCard

/-- THE SECOND FORM's CARD OF 'decklelaw12.EntrySigns'. -/
def entrySignsUptoCard : Claim7 := { stood := { row := entrySignsUptoRow, standIns := [], harness := (true, "8f44bd70987a2909fb6fcd76a2d2bbc172ebab483d6f96a17de70f76b11ad1bd"), looks := true }, kinds := [], alts := [], laidByText := true, laidKinds := [.data, .widerDeep, .pinned], laidTests := true, laidLooks := .later }
def EntrySignsUptoCardSaid : Prop := Claim7.holds Tryd.pinned (.plain (OpenSpec.upto entrySignsSpec)) entrySignsUptoCard

/-- THE SECOND FORM's CARD OF 'decklelaw17.ViewResets'. -/
def viewResetsUptoCard : Claim7 := { stood := { row := viewResetsUptoRow, standIns := [], harness := (true, "8f44bd70987a2909fb6fcd76a2d2bbc172ebab483d6f96a17de70f76b11ad1bd"), looks := true }, kinds := [], alts := [], laidByText := true, laidKinds := [.data, .widerDeep, .pinned], laidTests := true, laidLooks := .later }
def ViewResetsUptoCardSaid : Prop := Claim7.holds Tryd.pinned (.plain (OpenSpec.upto viewResetsSpec)) viewResetsUptoCard

/-- THE SECOND FORM's CARD OF 'decklelaw17.ViewOrder'. -/
def viewOrderUptoCard : Claim7 := { stood := { row := viewOrderUptoRow, standIns := [], harness := (true, "8f44bd70987a2909fb6fcd76a2d2bbc172ebab483d6f96a17de70f76b11ad1bd"), looks := true }, kinds := [], alts := [], laidByText := true, laidKinds := [.data, .widerDeep, .pinned], laidTests := true, laidLooks := .later }
def ViewOrderUptoCardSaid : Prop := Claim7.holds Tryd.pinned (.plain (OpenSpec.upto viewOrderSpec)) viewOrderUptoCard

/-- THE SECOND FORM's CARD OF 'decklelaw17.ViewSplits'. -/
def viewSplitsUptoCard : Claim7 := { stood := { row := viewSplitsUptoRow, standIns := [], harness := (true, "8f44bd70987a2909fb6fcd76a2d2bbc172ebab483d6f96a17de70f76b11ad1bd"), looks := true }, kinds := [], alts := [], laidByText := true, laidKinds := [.data, .widerDeep, .pinned], laidTests := true, laidLooks := .later }
def ViewSplitsUptoCardSaid : Prop := Claim7.holds Tryd.pinned (.plain (OpenSpec.upto viewSplitsSpec)) viewSplitsUptoCard

/-- THE SECOND FORM's CARD OF 'decklelaw17.ViewBare'. -/
def viewBareUptoCard : Claim7 := { stood := { row := viewBareUptoRow, standIns := [], harness := (true, "8f44bd70987a2909fb6fcd76a2d2bbc172ebab483d6f96a17de70f76b11ad1bd"), looks := true }, kinds := [], alts := [], laidByText := true, laidKinds := [.data, .widerDeep, .pinned], laidTests := true, laidLooks := .later }
def ViewBareUptoCardSaid : Prop := Claim7.holds Tryd.pinned (.plain (OpenSpec.upto viewBareSpec)) viewBareUptoCard
end Rows
end Go.Proofs.YtfbnegdaglbdiaaDoor
