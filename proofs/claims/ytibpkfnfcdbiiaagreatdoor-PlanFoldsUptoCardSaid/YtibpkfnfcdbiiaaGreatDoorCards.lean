/-
  DERIVED. GIVEN WITH THE SEED: THE CARDS: each row of YtibpkfnfcdbiiaaGreatDoorRows.lean that lists a variable, with what it lists TIED to the program's text (the seventh form; the later family's looks); each row that meets fmt, with fmt's text TOLD by the authors' own Lean function (tested against real Go, not proved from fmt's source: count such statements apart). THE CARD IS WHAT COUNTS. Prove the row's statement (the work); the ties are given (YtibpkfnfcdbiiaaGreatDoorTie.lean); close each card by the builder's one call (the guide's Derived/Test/ToyasCard.lean, 'card_holds'). Laid BY PROGRAM, IN A SANDBOX (cutbox-door.mjs). By AI agents, Wed Nov 11 2026. No macro, syntax, notation, axiom, sorry.
-/
import Derived.Test.YtibpkfnfcdbiiaaGreatDoorRows
import GoSem.ClaimSeven
namespace Go.Proofs.YtibpkfnfcdbiiaaGreatDoor
namespace Rows

/-- THE TIED CARD OF 'decklelaw14.WriterTraces'. -/
def writerTracesCard : Claim7 := { stood := { row := writerTracesRow, standIns := [], harness := (true, "69f4ce3d37c59502d9a53de068533c7bf3ef9447f863a6a2241faef027105daf"), looks := true }, kinds := [], alts := [], laidByText := true, laidKinds := [.data, .widerDeep, .widerDeep, .pinned], laidTests := true, laidLooks := .later }
def WriterTracesCardSaid : Prop := Claim7.holds Tryz.pinned (.plain (OpenSpec.ofChange writerTracesSpec)) writerTracesCard

/-- THE TIED CARD OF 'decklelaw18.CursorPlaces'. -/
def cursorPlacesCard : Claim7 := { stood := { row := cursorPlacesRow, standIns := [], harness := (true, "69f4ce3d37c59502d9a53de068533c7bf3ef9447f863a6a2241faef027105daf"), looks := true }, kinds := [], alts := [], laidByText := true, laidKinds := [.data, .widerDeep, .widerDeep, .pinned], laidTests := true, laidLooks := .later }
def CursorPlacesCardSaid : Prop := Claim7.holds Tryz.pinned (.plain (OpenSpec.ofChange cursorPlacesSpec)) cursorPlacesCard

/-- THE TIED CARD OF 'decklelaw18.CursorEnds'. -/
def cursorEndsCard : Claim7 := { stood := { row := cursorEndsRow, standIns := [], harness := (true, "69f4ce3d37c59502d9a53de068533c7bf3ef9447f863a6a2241faef027105daf"), looks := true }, kinds := [], alts := [], laidByText := true, laidKinds := [.data, .widerDeep, .widerDeep, .pinned], laidTests := true, laidLooks := .later }
def CursorEndsCardSaid : Prop := Claim7.holds Tryz.pinned (.plain (OpenSpec.ofChange cursorEndsSpec)) cursorEndsCard

/-- THE TIED CARD OF 'decklelaw14.WriterOwn'. -/
def writerOwnCard : Claim7 := { stood := { row := writerOwnRow, standIns := [], harness := (true, "69f4ce3d37c59502d9a53de068533c7bf3ef9447f863a6a2241faef027105daf"), looks := true }, kinds := [], alts := [], laidByText := true, laidKinds := [.data, .widerDeep, .widerDeep, .pinned], laidTests := true, laidLooks := .later }
def WriterOwnCardSaid : Prop := Claim7.holds Tryz.pinned (.plain (OpenSpec.ofChange writerOwnSpec)) writerOwnCard

/-- THE TIED CARD OF 'decklelaw19.PlanOver'. -/
def planOverCard : Claim7 := { stood := { row := planOverRow, standIns := [], harness := (true, "69f4ce3d37c59502d9a53de068533c7bf3ef9447f863a6a2241faef027105daf"), looks := true }, kinds := [], alts := [], laidByText := true, laidKinds := [.data, .widerDeep, .widerDeep, .pinned], laidTests := true, laidLooks := .later }
def PlanOverCardSaid : Prop := Claim7.holds Tryz.pinned (.plain (OpenSpec.ofChange planOverSpec)) planOverCard

/-- THE TIED CARD OF 'decklelaw19.PlanMost'. -/
def planMostCard : Claim7 := { stood := { row := planMostRow, standIns := [], harness := (true, "69f4ce3d37c59502d9a53de068533c7bf3ef9447f863a6a2241faef027105daf"), looks := true }, kinds := [], alts := [], laidByText := true, laidKinds := [.data, .widerDeep, .widerDeep, .pinned], laidTests := true, laidLooks := .later }
def PlanMostCardSaid : Prop := Claim7.holds Tryz.pinned (.plain (OpenSpec.ofChange planMostSpec)) planMostCard

/-- THE TIED CARD OF 'decklelaw14.WriterReopens'. -/
def writerReopensCard : Claim7 := { stood := { row := writerReopensRow, standIns := [], harness := (true, "69f4ce3d37c59502d9a53de068533c7bf3ef9447f863a6a2241faef027105daf"), looks := true }, kinds := [], alts := [], laidByText := true, laidKinds := [.data, .widerDeep, .widerDeep, .pinned], laidTests := true, laidLooks := .later }
def WriterReopensCardSaid : Prop := Claim7.holds Tryz.pinned (.plain (OpenSpec.ofChange writerReopensSpec)) writerReopensCard

/-- THE TIED CARD OF 'decklelaw19.PlanLeast'. -/
def planLeastCard : Claim7 := { stood := { row := planLeastRow, standIns := [], harness := (true, "69f4ce3d37c59502d9a53de068533c7bf3ef9447f863a6a2241faef027105daf"), looks := true }, kinds := [], alts := [], laidByText := true, laidKinds := [.data, .widerDeep, .widerDeep, .pinned], laidTests := true, laidLooks := .later }
def PlanLeastCardSaid : Prop := Claim7.holds Tryz.pinned (.plain (OpenSpec.ofChange planLeastSpec)) planLeastCard

/-- THE TIED CARD OF 'decklelaw19.PlanSums'. -/
def planSumsCard : Claim7 := { stood := { row := planSumsRow, standIns := [], harness := (true, "69f4ce3d37c59502d9a53de068533c7bf3ef9447f863a6a2241faef027105daf"), looks := true }, kinds := [], alts := [], laidByText := true, laidKinds := [.data, .widerDeep, .widerDeep, .pinned], laidTests := true, laidLooks := .later }
def PlanSumsCardSaid : Prop := Claim7.holds Tryz.pinned (.plain (OpenSpec.ofChange planSumsSpec)) planSumsCard

/-- THE TIED CARD OF 'decklelaw19.PlanFolds'. -/
def planFoldsCard : Claim7 := { stood := { row := planFoldsRow, standIns := [], harness := (true, "69f4ce3d37c59502d9a53de068533c7bf3ef9447f863a6a2241faef027105daf"), looks := true }, kinds := [], alts := [], laidByText := true, laidKinds := [.data, .widerDeep, .widerDeep, .pinned], laidTests := true, laidLooks := .later }
def PlanFoldsCardSaid : Prop := Claim7.holds Tryz.pinned (.plain (OpenSpec.ofChange planFoldsSpec)) planFoldsCard

/-- THE SECOND FORM's CARD OF 'decklelaw14.WriterTraces'. -/
def writerTracesUptoCard : Claim7 := { stood := { row := writerTracesUptoRow, standIns := [], harness := (true, "69f4ce3d37c59502d9a53de068533c7bf3ef9447f863a6a2241faef027105daf"), looks := true }, kinds := [], alts := [], laidByText := true, laidKinds := [.data, .widerDeep, .widerDeep, .pinned], laidTests := true, laidLooks := .later }
def WriterTracesUptoCardSaid : Prop := Claim7.holds Tryz.pinned (.plain (OpenSpec.upto writerTracesSpec)) writerTracesUptoCard

/-- THE SECOND FORM's CARD OF 'decklelaw18.CursorPlaces'. -/
def cursorPlacesUptoCard : Claim7 := { stood := { row := cursorPlacesUptoRow, standIns := [], harness := (true, "69f4ce3d37c59502d9a53de068533c7bf3ef9447f863a6a2241faef027105daf"), looks := true }, kinds := [], alts := [], laidByText := true, laidKinds := [.data, .widerDeep, .widerDeep, .pinned], laidTests := true, laidLooks := .later }
def CursorPlacesUptoCardSaid : Prop := Claim7.holds Tryz.pinned (.plain (OpenSpec.upto cursorPlacesSpec)) cursorPlacesUptoCard

/-- THE SECOND FORM's CARD OF 'decklelaw18.CursorEnds'. -/
def cursorEndsUptoCard : Claim7 := { stood := { row := cursorEndsUptoRow, standIns := [], harness := (true, "69f4ce3d37c59502d9a53de068533c7bf3ef9447f863a6a2241faef027105daf"), looks := true }, kinds := [], alts := [], laidByText := true, laidKinds := [.data, .widerDeep, .widerDeep, .pinned], laidTests := true, laidLooks := .later }
def CursorEndsUptoCardSaid : Prop := Claim7.holds Tryz.pinned (.plain (OpenSpec.upto cursorEndsSpec)) cursorEndsUptoCard

/-- THE SECOND FORM's CARD OF 'decklelaw14.WriterOwn'. -/
def writerOwnUptoCard : Claim7 := { stood := { row := writerOwnUptoRow, standIns := [], harness := (true, "69f4ce3d37c59502d9a53de068533c7bf3ef9447f863a6a2241faef027105daf"), looks := true }, kinds := [], alts := [], laidByText := true, laidKinds := [.data, .widerDeep, .widerDeep, .pinned], laidTests := true, laidLooks := .later }
def WriterOwnUptoCardSaid : Prop := Claim7.holds Tryz.pinned (.plain (OpenSpec.upto writerOwnSpec)) writerOwnUptoCard

/-- THE SECOND FORM's CARD OF 'decklelaw19.PlanOver'. -/
def planOverUptoCard : Claim7 := { stood := { row := planOverUptoRow, standIns := [], harness := (true, "69f4ce3d37c59502d9a53de068533c7bf3ef9447f863a6a2241faef027105daf"), looks := true }, kinds := [], alts := [], laidByText := true, laidKinds := [.data, .widerDeep, .widerDeep, .pinned], laidTests := true, laidLooks := .later }
def PlanOverUptoCardSaid : Prop := Claim7.holds Tryz.pinned (.plain (OpenSpec.upto planOverSpec)) planOverUptoCard

/-- THE SECOND FORM's CARD OF 'decklelaw19.PlanMost'. -/
def planMostUptoCard : Claim7 := { stood := { row := planMostUptoRow, standIns := [], harness := (true, "69f4ce3d37c59502d9a53de068533c7bf3ef9447f863a6a2241faef027105daf"), looks := true }, kinds := [], alts := [], laidByText := true, laidKinds := [.data, .widerDeep, .widerDeep, .pinned], laidTests := true, laidLooks := .later }
def PlanMostUptoCardSaid : Prop := Claim7.holds Tryz.pinned (.plain (OpenSpec.upto planMostSpec)) planMostUptoCard

/-- THE SECOND FORM's CARD OF 'decklelaw14.WriterReopens'. -/
def writerReopensUptoCard : Claim7 := { stood := { row := writerReopensUptoRow, standIns := [], harness := (true, "69f4ce3d37c59502d9a53de068533c7bf3ef9447f863a6a2241faef027105daf"), looks := true }, kinds := [], alts := [], laidByText := true, laidKinds := [.data, .widerDeep, .widerDeep, .pinned], laidTests := true, laidLooks := .later }
def WriterReopensUptoCardSaid : Prop := Claim7.holds Tryz.pinned (.plain (OpenSpec.upto writerReopensSpec)) writerReopensUptoCard

/-- THE SECOND FORM's CARD OF 'decklelaw19.PlanLeast'. -/
def planLeastUptoCard : Claim7 := { stood := { row := planLeastUptoRow, standIns := [], harness := (true, "69f4ce3d37c59502d9a53de068533c7bf3ef9447f863a6a2241faef027105daf"), looks := true }, kinds := [], alts := [], laidByText := true, laidKinds := [.data, .widerDeep, .widerDeep, .pinned], laidTests := true, laidLooks := .later }
def PlanLeastUptoCardSaid : Prop := Claim7.holds Tryz.pinned (.plain (OpenSpec.upto planLeastSpec)) planLeastUptoCard

/-- THE SECOND FORM's CARD OF 'decklelaw19.PlanSums'. -/
def planSumsUptoCard : Claim7 := { stood := { row := planSumsUptoRow, standIns := [], harness := (true, "69f4ce3d37c59502d9a53de068533c7bf3ef9447f863a6a2241faef027105daf"), looks := true }, kinds := [], alts := [], laidByText := true, laidKinds := [.data, .widerDeep, .widerDeep, .pinned], laidTests := true, laidLooks := .later }
def PlanSumsUptoCardSaid : Prop := Claim7.holds Tryz.pinned (.plain (OpenSpec.upto planSumsSpec)) planSumsUptoCard

/-- THE SECOND FORM's CARD OF 'decklelaw19.PlanFolds'. -/
def planFoldsUptoCard : Claim7 := { stood := { row := planFoldsUptoRow, standIns := [], harness := (true, "69f4ce3d37c59502d9a53de068533c7bf3ef9447f863a6a2241faef027105daf"), looks := true }, kinds := [], alts := [], laidByText := true, laidKinds := [.data, .widerDeep, .widerDeep, .pinned], laidTests := true, laidLooks := .later }
def PlanFoldsUptoCardSaid : Prop := Claim7.holds Tryz.pinned (.plain (OpenSpec.upto planFoldsSpec)) planFoldsUptoCard
end Rows
end Go.Proofs.YtibpkfnfcdbiiaaGreatDoor
