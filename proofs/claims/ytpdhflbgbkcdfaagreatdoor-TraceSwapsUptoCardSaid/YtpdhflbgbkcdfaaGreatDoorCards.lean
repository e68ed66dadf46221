/-
  DERIVED. GIVEN WITH THE SEED: THE CARDS: each row of YtpdhflbgbkcdfaaGreatDoorRows.lean that lists a variable, with what it lists TIED to the program's text (the seventh form; the later family's looks); each row that meets fmt, with fmt's text TOLD by the authors' own Lean function (tested against real Go, not proved from fmt's source: count such statements apart). THE CARD IS WHAT COUNTS. Prove the row's statement (the work); the ties are given (YtpdhflbgbkcdfaaGreatDoorTie.lean); close each card by the builder's one call (the guide's Derived/Test/ToyasCard.lean, 'card_holds'). Laid BY PROGRAM, IN A SANDBOX (cutbox-door.mjs). By AI agents, Wed Nov 11 2026. No macro, syntax, notation, axiom, sorry.
-/
import Derived.Test.YtpdhflbgbkcdfaaGreatDoorRows
import GoSem.ClaimSeven
namespace Go.Proofs.YtpdhflbgbkcdfaaGreatDoor
namespace Rows

/-- THE TIED CARD OF 'decklelaw14.WriterRefuses'. -/
def writerRefusesCard : Claim7 := { stood := { row := writerRefusesRow, standIns := [], harness := (true, "c11ee866205df488784c138bf70d6d6a77d5a1b7948b0389e7f1f299c08652f9"), looks := true }, kinds := [], alts := [], laidByText := true, laidKinds := [.data, .widerDeep, .widerDeep, .pinned], laidTests := true, laidLooks := .later }
def WriterRefusesCardSaid : Prop := Claim7.holds Tryz.pinned (.plain (OpenSpec.ofChange writerRefusesSpec)) writerRefusesCard

/-- THE TIED CARD OF 'decklelaw13.TraceCuts'. -/
def traceCutsCard : Claim7 := { stood := { row := traceCutsRow, standIns := [], harness := (true, "c11ee866205df488784c138bf70d6d6a77d5a1b7948b0389e7f1f299c08652f9"), looks := true }, kinds := [], alts := [], laidByText := true, laidKinds := [.data, .widerDeep, .widerDeep, .pinned], laidTests := true, laidLooks := .later }
def TraceCutsCardSaid : Prop := Claim7.holds Tryz.pinned (.plain (OpenSpec.ofChange traceCutsSpec)) traceCutsCard

/-- THE TIED CARD OF 'decklelaw13.TraceSwaps'. -/
def traceSwapsCard : Claim7 := { stood := { row := traceSwapsRow, standIns := [], harness := (true, "c11ee866205df488784c138bf70d6d6a77d5a1b7948b0389e7f1f299c08652f9"), looks := true }, kinds := [], alts := [], laidByText := true, laidKinds := [.data, .widerDeep, .widerDeep, .pinned], laidTests := true, laidLooks := .later }
def TraceSwapsCardSaid : Prop := Claim7.holds Tryz.pinned (.plain (OpenSpec.ofChange traceSwapsSpec)) traceSwapsCard

/-- THE TIED CARD OF 'decklelaw13.TraceViews'. -/
def traceViewsCard : Claim7 := { stood := { row := traceViewsRow, standIns := [], harness := (true, "c11ee866205df488784c138bf70d6d6a77d5a1b7948b0389e7f1f299c08652f9"), looks := true }, kinds := [], alts := [], laidByText := true, laidKinds := [.data, .widerDeep, .widerDeep, .pinned], laidTests := true, laidLooks := .later }
def TraceViewsCardSaid : Prop := Claim7.holds Tryz.pinned (.plain (OpenSpec.ofChange traceViewsSpec)) traceViewsCard

/-- THE TIED CARD OF 'decklelaw14.WriterTraces'. -/
def writerTracesCard : Claim7 := { stood := { row := writerTracesRow, standIns := [], harness := (true, "c11ee866205df488784c138bf70d6d6a77d5a1b7948b0389e7f1f299c08652f9"), looks := true }, kinds := [], alts := [], laidByText := true, laidKinds := [.data, .widerDeep, .widerDeep, .pinned], laidTests := true, laidLooks := .later }
def WriterTracesCardSaid : Prop := Claim7.holds Tryz.pinned (.plain (OpenSpec.ofChange writerTracesSpec)) writerTracesCard

/-- THE TIED CARD OF 'decklelaw14.WriterOwn'. -/
def writerOwnCard : Claim7 := { stood := { row := writerOwnRow, standIns := [], harness := (true, "c11ee866205df488784c138bf70d6d6a77d5a1b7948b0389e7f1f299c08652f9"), looks := true }, kinds := [], alts := [], laidByText := true, laidKinds := [.data, .widerDeep, .widerDeep, .pinned], laidTests := true, laidLooks := .later }
def WriterOwnCardSaid : Prop := Claim7.holds Tryz.pinned (.plain (OpenSpec.ofChange writerOwnSpec)) writerOwnCard

/-- THE TIED CARD OF 'decklelaw14.WriterReopens'. -/
def writerReopensCard : Claim7 := { stood := { row := writerReopensRow, standIns := [], harness := (true, "c11ee866205df488784c138bf70d6d6a77d5a1b7948b0389e7f1f299c08652f9"), looks := true }, kinds := [], alts := [], laidByText := true, laidKinds := [.data, .widerDeep, .widerDeep, .pinned], laidTests := true, laidLooks := .later }
def WriterReopensCardSaid : Prop := Claim7.holds Tryz.pinned (.plain (OpenSpec.ofChange writerReopensSpec)) writerReopensCard

/-- THE SECOND FORM's CARD OF 'decklelaw14.WriterRefuses'. -/
def writerRefusesUptoCard : Claim7 := { stood := { row := writerRefusesUptoRow, standIns := [], harness := (true, "c11ee866205df488784c138bf70d6d6a77d5a1b7948b0389e7f1f299c08652f9"), looks := true }, kinds := [], alts := [], laidByText := true, laidKinds := [.data, .widerDeep, .widerDeep, .pinned], laidTests := true, laidLooks := .later }
def WriterRefusesUptoCardSaid : Prop := Claim7.holds Tryz.pinned (.plain (OpenSpec.upto writerRefusesSpec)) writerRefusesUptoCard

/-- THE SECOND FORM's CARD OF 'decklelaw13.TraceCuts'. -/
def traceCutsUptoCard : Claim7 := { stood := { row := traceCutsUptoRow, standIns := [], harness := (true, "c11ee866205df488784c138bf70d6d6a77d5a1b7948b0389e7f1f299c08652f9"), looks := true }, kinds := [], alts := [], laidByText := true, laidKinds := [.data, .widerDeep, .widerDeep, .pinned], laidTests := true, laidLooks := .later }
def TraceCutsUptoCardSaid : Prop := Claim7.holds Tryz.pinned (.plain (OpenSpec.upto traceCutsSpec)) traceCutsUptoCard

/-- THE SECOND FORM's CARD OF 'decklelaw13.TraceSwaps'. -/
def traceSwapsUptoCard : Claim7 := { stood := { row := traceSwapsUptoRow, standIns := [], harness := (true, "c11ee866205df488784c138bf70d6d6a77d5a1b7948b0389e7f1f299c08652f9"), looks := true }, kinds := [], alts := [], laidByText := true, laidKinds := [.data, .widerDeep, .widerDeep, .pinned], laidTests := true, laidLooks := .later }
def TraceSwapsUptoCardSaid : Prop := Claim7.holds Tryz.pinned (.plain (OpenSpec.upto traceSwapsSpec)) traceSwapsUptoCard

/-- THE SECOND FORM's CARD OF 'decklelaw13.TraceViews'. -/
def traceViewsUptoCard : Claim7 := { stood := { row := traceViewsUptoRow, standIns := [], harness := (true, "c11ee866205df488784c138bf70d6d6a77d5a1b7948b0389e7f1f299c08652f9"), looks := true }, kinds := [], alts := [], laidByText := true, laidKinds := [.data, .widerDeep, .widerDeep, .pinned], laidTests := true, laidLooks := .later }
def TraceViewsUptoCardSaid : Prop := Claim7.holds Tryz.pinned (.plain (OpenSpec.upto traceViewsSpec)) traceViewsUptoCard

/-- THE SECOND FORM's CARD OF 'decklelaw14.WriterTraces'. -/
def writerTracesUptoCard : Claim7 := { stood := { row := writerTracesUptoRow, standIns := [], harness := (true, "c11ee866205df488784c138bf70d6d6a77d5a1b7948b0389e7f1f299c08652f9"), looks := true }, kinds := [], alts := [], laidByText := true, laidKinds := [.data, .widerDeep, .widerDeep, .pinned], laidTests := true, laidLooks := .later }
def WriterTracesUptoCardSaid : Prop := Claim7.holds Tryz.pinned (.plain (OpenSpec.upto writerTracesSpec)) writerTracesUptoCard

/-- THE SECOND FORM's CARD OF 'decklelaw14.WriterOwn'. -/
def writerOwnUptoCard : Claim7 := { stood := { row := writerOwnUptoRow, standIns := [], harness := (true, "c11ee866205df488784c138bf70d6d6a77d5a1b7948b0389e7f1f299c08652f9"), looks := true }, kinds := [], alts := [], laidByText := true, laidKinds := [.data, .widerDeep, .widerDeep, .pinned], laidTests := true, laidLooks := .later }
def WriterOwnUptoCardSaid : Prop := Claim7.holds Tryz.pinned (.plain (OpenSpec.upto writerOwnSpec)) writerOwnUptoCard

/-- THE SECOND FORM's CARD OF 'decklelaw14.WriterReopens'. -/
def writerReopensUptoCard : Claim7 := { stood := { row := writerReopensUptoRow, standIns := [], harness := (true, "c11ee866205df488784c138bf70d6d6a77d5a1b7948b0389e7f1f299c08652f9"), looks := true }, kinds := [], alts := [], laidByText := true, laidKinds := [.data, .widerDeep, .widerDeep, .pinned], laidTests := true, laidLooks := .later }
def WriterReopensUptoCardSaid : Prop := Claim7.holds Tryz.pinned (.plain (OpenSpec.upto writerReopensSpec)) writerReopensUptoCard
end Rows
end Go.Proofs.YtpdhflbgbkcdfaaGreatDoor
