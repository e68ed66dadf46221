/-
  DERIVED. GIVEN WITH THE SEED: THE CARDS: each row of YtiopngpkfhgbpaaGreatDoorRows.lean that lists a variable, with what it lists TIED to the program's text (the seventh form; the later family's looks); each row that meets fmt, with fmt's text TOLD by the authors' own Lean function (tested against real Go, not proved from fmt's source: count such statements apart). THE CARD IS WHAT COUNTS. Prove the row's statement (the work); the ties are given (YtiopngpkfhgbpaaGreatDoorTie.lean); close each card by the builder's one call (the guide's Derived/Test/ToyasCard.lean, 'card_holds'). Laid BY PROGRAM, IN A SANDBOX (cutbox-door.mjs). By AI agents, Wed Nov 11 2026. No macro, syntax, notation, axiom, sorry.
-/
import Derived.Test.YtiopngpkfhgbpaaGreatDoorRows
import GoSem.ClaimSeven
namespace Go.Proofs.YtiopngpkfhgbpaaGreatDoor
namespace Rows

/-- THE TIED CARD OF 'decklelaw10.BatchRow'. -/
def batchRowCard : Claim7 := { stood := { row := batchRowRow, standIns := [], harness := (true, "b1c63b817a23b564ae46ebdb18d73f9060ea157a60bf219f506b1f0c10c2a5db"), looks := true }, kinds := [], alts := [], laidByText := true, laidKinds := [.data, .widerDeep, .pinned], laidTests := true, laidLooks := .later }
def BatchRowCardSaid : Prop := Claim7.holds Tryz.pinned (.plain (OpenSpec.ofChange batchRowSpec)) batchRowCard

/-- THE TIED CARD OF 'decklelaw10.BatchBack'. -/
def batchBackCard : Claim7 := { stood := { row := batchBackRow, standIns := [], harness := (true, "b1c63b817a23b564ae46ebdb18d73f9060ea157a60bf219f506b1f0c10c2a5db"), looks := true }, kinds := [], alts := [], laidByText := true, laidKinds := [.data, .widerDeep, .pinned], laidTests := true, laidLooks := .later }
def BatchBackCardSaid : Prop := Claim7.holds Tryz.pinned (.plain (OpenSpec.ofChange batchBackSpec)) batchBackCard

/-- THE TIED CARD OF 'decklelaw10.BatchSums'. -/
def batchSumsCard : Claim7 := { stood := { row := batchSumsRow, standIns := [], harness := (true, "b1c63b817a23b564ae46ebdb18d73f9060ea157a60bf219f506b1f0c10c2a5db"), looks := true }, kinds := [], alts := [], laidByText := true, laidKinds := [.data, .widerDeep, .pinned], laidTests := true, laidLooks := .later }
def BatchSumsCardSaid : Prop := Claim7.holds Tryz.pinned (.plain (OpenSpec.ofChange batchSumsSpec)) batchSumsCard

/-- THE SECOND FORM's CARD OF 'decklelaw10.BatchRow'. -/
def batchRowUptoCard : Claim7 := { stood := { row := batchRowUptoRow, standIns := [], harness := (true, "b1c63b817a23b564ae46ebdb18d73f9060ea157a60bf219f506b1f0c10c2a5db"), looks := true }, kinds := [], alts := [], laidByText := true, laidKinds := [.data, .widerDeep, .pinned], laidTests := true, laidLooks := .later }
def BatchRowUptoCardSaid : Prop := Claim7.holds Tryz.pinned (.plain (OpenSpec.upto batchRowSpec)) batchRowUptoCard

/-- THE SECOND FORM's CARD OF 'decklelaw10.BatchBack'. -/
def batchBackUptoCard : Claim7 := { stood := { row := batchBackUptoRow, standIns := [], harness := (true, "b1c63b817a23b564ae46ebdb18d73f9060ea157a60bf219f506b1f0c10c2a5db"), looks := true }, kinds := [], alts := [], laidByText := true, laidKinds := [.data, .widerDeep, .pinned], laidTests := true, laidLooks := .later }
def BatchBackUptoCardSaid : Prop := Claim7.holds Tryz.pinned (.plain (OpenSpec.upto batchBackSpec)) batchBackUptoCard

/-- THE SECOND FORM's CARD OF 'decklelaw10.BatchSums'. -/
def batchSumsUptoCard : Claim7 := { stood := { row := batchSumsUptoRow, standIns := [], harness := (true, "b1c63b817a23b564ae46ebdb18d73f9060ea157a60bf219f506b1f0c10c2a5db"), looks := true }, kinds := [], alts := [], laidByText := true, laidKinds := [.data, .widerDeep, .pinned], laidTests := true, laidLooks := .later }
def BatchSumsUptoCardSaid : Prop := Claim7.holds Tryz.pinned (.plain (OpenSpec.upto batchSumsSpec)) batchSumsUptoCard
end Rows
end Go.Proofs.YtiopngpkfhgbpaaGreatDoor
