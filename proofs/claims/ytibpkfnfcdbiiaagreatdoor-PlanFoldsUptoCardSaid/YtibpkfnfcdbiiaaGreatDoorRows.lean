/-
  NARROWER THAN 'FOR EVERY INPUT', by the rows' own cells (each row's printed sentence says how): WriterTraces: laid · CursorPlaces: laid · CursorEnds: laid · WriterOwn: laid · PlanOver: laid · PlanMost: laid · WriterReopens: laid · PlanLeast: laid · PlanSums: laid · PlanFolds: laid.
  DERIVED. THE GIVEN ROWS OF THIS SEAT. 10 by the template 'for every input the law returns true; each argument reads behind the call as it read before'; 0 by the template 'total and deterministic' (their statements: YtibpkfnfcdbiiaaGreatDoorTotals.lean).
  GIVEN WITH THE SEED: the statements are not yours to turn. If you find one false, say at which input.
  Laid BY PROGRAM, IN A SANDBOX (cutbox-rows.mjs): the forced cells as the released guide's own fill.sh prints them over the translation 7985862eeb59422f… (all of the seat's roots in one cut). By AI agents, Wed Nov 11 2026. No macro, syntax, notation, axiom, sorry.
-/
import Derived.Test.YtibpkfnfcdbiiaaGreatDoorChecked
import GoSem.PinnedTables
import GoSem.Claim
import GoSem.ClaimJoined
import GoSem.ClaimMapViews
import Derived.JoinedTies
import Derived.KernelRfl
namespace Go.Proofs.YtibpkfnfcdbiiaaGreatDoor
/- THE CELL 'sum', in the pinned program and in every row, IS THE sha256 OF THE DUMP (.gsa) THAT YtibpkfnfcdbiiaaGreatDoorProg.lean LOADS. Nothing in Lean hashes anything: it is a label: what it is worth is what the hold of that sum in a sandbox is worth. -/
noncomputable def Tryz.pinned : Pinned := { name := "ytibpkfnfcdbiiaagreatdoor", sum := "7985862eeb59422f3823a4eb212c8c6c8930d02bdf3515e4f4bedaaa74a110f7", checked := Tryz.checked }
namespace Rows
def none {H : Type} : Left H := { results := [], args := [] }

/- WHAT THE LISTED PACKAGE-LEVEL VARIABLES READ AS WHEN THE CALL BEGINS. Each datum BY PROGRAM (the guide's laid-datum.mjs) off the statement by which the dump's own 'gosem.cut.vars' lays the variable. In a bare row this is a premise. The card (YtibpkfnfcdbiiaaGreatDoorCards.lean) ties it to the program's text. -/
def laid_unicode_utf8_acceptRanges {H : Type} : DataW H := .agg [.agg [.lit (.int .u8 128), .lit (.int .u8 191)], .agg [.lit (.int .u8 160), .lit (.int .u8 191)], .agg [.lit (.int .u8 128), .lit (.int .u8 159)], .agg [.lit (.int .u8 144), .lit (.int .u8 191)], .agg [.lit (.int .u8 128), .lit (.int .u8 143)], .agg [.lit (.int .u8 0), .lit (.int .u8 0)], .agg [.lit (.int .u8 0), .lit (.int .u8 0)], .agg [.lit (.int .u8 0), .lit (.int .u8 0)], .agg [.lit (.int .u8 0), .lit (.int .u8 0)], .agg [.lit (.int .u8 0), .lit (.int .u8 0)], .agg [.lit (.int .u8 0), .lit (.int .u8 0)], .agg [.lit (.int .u8 0), .lit (.int .u8 0)], .agg [.lit (.int .u8 0), .lit (.int .u8 0)], .agg [.lit (.int .u8 0), .lit (.int .u8 0)], .agg [.lit (.int .u8 0), .lit (.int .u8 0)], .agg [.lit (.int .u8 0), .lit (.int .u8 0)]]
def laid_deckle_cell_names {H : Type} : DataW H := .agg [.lit (.string [105, 110, 116]), .lit (.string [117, 105, 110, 116]), .lit (.string [98, 111, 111, 108]), .lit (.string [98, 121, 116, 101, 115]), .lit (.string [116, 101, 120, 116]), .lit (.string [102, 108, 111, 97, 116])]
def laid_deckle_entry_frames {H : Type} : DataW H := .agg [.lit (.int .i64 2), .lit (.int .i64 1)]
/-- One of Go's own tables, pinned by name: the form's constant. -/
def laid_unicode_utf8_first : DataW Unit := Go.Pinned.utf8First

/-- 'decklelaw14.WriterTraces': WHATEVER THE INPUT: true; the input reads as it did. -/
def writerTracesSpec : ChangeSpec := { name := "writerTraces", fn := fun _ => fun
  | [d1, d2] => { results := [.lit (.bool true)], args := [d1, d2] }
  | _ => none }
def writerTracesRow : OpenClaim := { program := "ytibpkfnfcdbiiaagreatdoor", sum := "7985862eeb59422f3823a4eb212c8c6c8930d02bdf3515e4f4bedaaa74a110f7", func := "deckle/decklelaw14.WriterTraces", spec := "writerTraces", inPlace := ["internal/bytealg.IndexByteString", "internal/bytealg.IndexString", "internal/bytealg.abigen_runtime_cmpstring", "math/bits.Add64"], unfollowed := true, recurses := true, named := ["unicode/utf8.first", "unicode/utf8.acceptRanges", "deckle/cell.names", "deckle/entry.frames", "internal/bytealg.MaxLen"], apart := false, laid := [("unicode/utf8.acceptRanges", laid_unicode_utf8_acceptRanges), ("deckle/cell.names", laid_deckle_cell_names), ("deckle/entry.frames", laid_deckle_entry_frames), ("unicode/utf8.first", laid_unicode_utf8_first)] }
def WriterTracesSaid : Prop := writerTracesRow.holds Tryz.pinned (OpenSpec.ofChange writerTracesSpec)

/-- ITS FALSE NEIGHBOUR: 'it returns false'. Refute it at one input. -/
def writerTracesWrong : ChangeSpec := { name := "writerTraces", fn := fun _ => fun
  | [d1, d2] => { results := [.lit (.bool false)], args := [d1, d2] }
  | _ => none }
def WriterTracesWrongFalsely : Prop := writerTracesRow.holds Tryz.pinned (OpenSpec.ofChange writerTracesWrong)

/-- 'decklelaw18.CursorPlaces': WHATEVER THE INPUT: true; the input reads as it did. -/
def cursorPlacesSpec : ChangeSpec := { name := "cursorPlaces", fn := fun _ => fun
  | [d1, d2] => { results := [.lit (.bool true)], args := [d1, d2] }
  | _ => none }
def cursorPlacesRow : OpenClaim := { program := "ytibpkfnfcdbiiaagreatdoor", sum := "7985862eeb59422f3823a4eb212c8c6c8930d02bdf3515e4f4bedaaa74a110f7", func := "deckle/decklelaw18.CursorPlaces", spec := "cursorPlaces", inPlace := ["internal/bytealg.IndexByteString", "internal/bytealg.IndexString", "internal/bytealg.abigen_runtime_cmpstring", "math/bits.Add64"], unfollowed := true, recurses := true, named := ["unicode/utf8.first", "unicode/utf8.acceptRanges", "deckle/cell.names", "deckle/entry.frames", "internal/bytealg.MaxLen"], apart := false, laid := [("unicode/utf8.acceptRanges", laid_unicode_utf8_acceptRanges), ("deckle/cell.names", laid_deckle_cell_names), ("deckle/entry.frames", laid_deckle_entry_frames), ("unicode/utf8.first", laid_unicode_utf8_first)] }
def CursorPlacesSaid : Prop := cursorPlacesRow.holds Tryz.pinned (OpenSpec.ofChange cursorPlacesSpec)

/-- ITS FALSE NEIGHBOUR: 'it returns false'. Refute it at one input. -/
def cursorPlacesWrong : ChangeSpec := { name := "cursorPlaces", fn := fun _ => fun
  | [d1, d2] => { results := [.lit (.bool false)], args := [d1, d2] }
  | _ => none }
def CursorPlacesWrongFalsely : Prop := cursorPlacesRow.holds Tryz.pinned (OpenSpec.ofChange cursorPlacesWrong)

/-- 'decklelaw18.CursorEnds': WHATEVER THE INPUT: true; the input reads as it did. -/
def cursorEndsSpec : ChangeSpec := { name := "cursorEnds", fn := fun _ => fun
  | [d] => { results := [.lit (.bool true)], args := [d] }
  | _ => none }
def cursorEndsRow : OpenClaim := { program := "ytibpkfnfcdbiiaagreatdoor", sum := "7985862eeb59422f3823a4eb212c8c6c8930d02bdf3515e4f4bedaaa74a110f7", func := "deckle/decklelaw18.CursorEnds", spec := "cursorEnds", inPlace := ["internal/bytealg.IndexByteString", "internal/bytealg.IndexString", "internal/bytealg.abigen_runtime_cmpstring", "math/bits.Add64"], unfollowed := true, recurses := true, named := ["unicode/utf8.first", "unicode/utf8.acceptRanges", "deckle/cell.names", "deckle/entry.frames", "internal/bytealg.MaxLen"], apart := false, laid := [("unicode/utf8.acceptRanges", laid_unicode_utf8_acceptRanges), ("deckle/cell.names", laid_deckle_cell_names), ("deckle/entry.frames", laid_deckle_entry_frames), ("unicode/utf8.first", laid_unicode_utf8_first)] }
def CursorEndsSaid : Prop := cursorEndsRow.holds Tryz.pinned (OpenSpec.ofChange cursorEndsSpec)

/-- ITS FALSE NEIGHBOUR: 'it returns false'. Refute it at one input. -/
def cursorEndsWrong : ChangeSpec := { name := "cursorEnds", fn := fun _ => fun
  | [d] => { results := [.lit (.bool false)], args := [d] }
  | _ => none }
def CursorEndsWrongFalsely : Prop := cursorEndsRow.holds Tryz.pinned (OpenSpec.ofChange cursorEndsWrong)

/-- 'decklelaw14.WriterOwn': WHATEVER THE INPUT: true; the input reads as it did. -/
def writerOwnSpec : ChangeSpec := { name := "writerOwn", fn := fun _ => fun
  | [d1, d2] => { results := [.lit (.bool true)], args := [d1, d2] }
  | _ => none }
def writerOwnRow : OpenClaim := { program := "ytibpkfnfcdbiiaagreatdoor", sum := "7985862eeb59422f3823a4eb212c8c6c8930d02bdf3515e4f4bedaaa74a110f7", func := "deckle/decklelaw14.WriterOwn", spec := "writerOwn", inPlace := ["internal/bytealg.IndexByteString", "internal/bytealg.IndexString", "internal/bytealg.abigen_runtime_cmpstring", "math/bits.Add64"], unfollowed := true, recurses := true, named := ["unicode/utf8.first", "unicode/utf8.acceptRanges", "deckle/cell.names", "deckle/entry.frames", "internal/bytealg.MaxLen"], apart := false, laid := [("unicode/utf8.acceptRanges", laid_unicode_utf8_acceptRanges), ("deckle/cell.names", laid_deckle_cell_names), ("deckle/entry.frames", laid_deckle_entry_frames), ("unicode/utf8.first", laid_unicode_utf8_first)] }
def WriterOwnSaid : Prop := writerOwnRow.holds Tryz.pinned (OpenSpec.ofChange writerOwnSpec)

/-- ITS FALSE NEIGHBOUR: 'it returns false'. Refute it at one input. -/
def writerOwnWrong : ChangeSpec := { name := "writerOwn", fn := fun _ => fun
  | [d1, d2] => { results := [.lit (.bool false)], args := [d1, d2] }
  | _ => none }
def WriterOwnWrongFalsely : Prop := writerOwnRow.holds Tryz.pinned (OpenSpec.ofChange writerOwnWrong)

/-- 'decklelaw19.PlanOver': WHATEVER THE INPUT: true; the input reads as it did. -/
def planOverSpec : ChangeSpec := { name := "planOver", fn := fun _ => fun
  | [d1, d2] => { results := [.lit (.bool true)], args := [d1, d2] }
  | _ => none }
def planOverRow : OpenClaim := { program := "ytibpkfnfcdbiiaagreatdoor", sum := "7985862eeb59422f3823a4eb212c8c6c8930d02bdf3515e4f4bedaaa74a110f7", func := "deckle/decklelaw19.PlanOver", spec := "planOver", inPlace := ["internal/bytealg.IndexByteString", "internal/bytealg.IndexString", "internal/bytealg.abigen_runtime_cmpstring", "math/bits.Add64"], unfollowed := true, recurses := true, named := ["unicode/utf8.first", "unicode/utf8.acceptRanges", "deckle/cell.names", "deckle/entry.frames", "internal/bytealg.MaxLen"], apart := false, laid := [("unicode/utf8.acceptRanges", laid_unicode_utf8_acceptRanges), ("deckle/cell.names", laid_deckle_cell_names), ("deckle/entry.frames", laid_deckle_entry_frames), ("unicode/utf8.first", laid_unicode_utf8_first)] }
def PlanOverSaid : Prop := planOverRow.holds Tryz.pinned (OpenSpec.ofChange planOverSpec)

/-- ITS FALSE NEIGHBOUR: 'it returns false'. Refute it at one input. -/
def planOverWrong : ChangeSpec := { name := "planOver", fn := fun _ => fun
  | [d1, d2] => { results := [.lit (.bool false)], args := [d1, d2] }
  | _ => none }
def PlanOverWrongFalsely : Prop := planOverRow.holds Tryz.pinned (OpenSpec.ofChange planOverWrong)

/-- 'decklelaw19.PlanMost': WHATEVER THE INPUT: true; the input reads as it did. -/
def planMostSpec : ChangeSpec := { name := "planMost", fn := fun _ => fun
  | [d1, d2] => { results := [.lit (.bool true)], args := [d1, d2] }
  | _ => none }
def planMostRow : OpenClaim := { program := "ytibpkfnfcdbiiaagreatdoor", sum := "7985862eeb59422f3823a4eb212c8c6c8930d02bdf3515e4f4bedaaa74a110f7", func := "deckle/decklelaw19.PlanMost", spec := "planMost", inPlace := ["internal/bytealg.IndexByteString", "internal/bytealg.IndexString", "internal/bytealg.abigen_runtime_cmpstring", "math/bits.Add64"], unfollowed := true, recurses := true, named := ["unicode/utf8.first", "unicode/utf8.acceptRanges", "deckle/cell.names", "deckle/entry.frames", "internal/bytealg.MaxLen"], apart := false, laid := [("unicode/utf8.acceptRanges", laid_unicode_utf8_acceptRanges), ("deckle/cell.names", laid_deckle_cell_names), ("deckle/entry.frames", laid_deckle_entry_frames), ("unicode/utf8.first", laid_unicode_utf8_first)] }
def PlanMostSaid : Prop := planMostRow.holds Tryz.pinned (OpenSpec.ofChange planMostSpec)

/-- ITS FALSE NEIGHBOUR: 'it returns false'. Refute it at one input. -/
def planMostWrong : ChangeSpec := { name := "planMost", fn := fun _ => fun
  | [d1, d2] => { results := [.lit (.bool false)], args := [d1, d2] }
  | _ => none }
def PlanMostWrongFalsely : Prop := planMostRow.holds Tryz.pinned (OpenSpec.ofChange planMostWrong)

/-- 'decklelaw14.WriterReopens': WHATEVER THE INPUT: true; the input reads as it did. -/
def writerReopensSpec : ChangeSpec := { name := "writerReopens", fn := fun _ => fun
  | [d1, d2, d3] => { results := [.lit (.bool true)], args := [d1, d2, d3] }
  | _ => none }
def writerReopensRow : OpenClaim := { program := "ytibpkfnfcdbiiaagreatdoor", sum := "7985862eeb59422f3823a4eb212c8c6c8930d02bdf3515e4f4bedaaa74a110f7", func := "deckle/decklelaw14.WriterReopens", spec := "writerReopens", inPlace := ["internal/bytealg.IndexByteString", "internal/bytealg.IndexString", "internal/bytealg.abigen_runtime_cmpstring", "math/bits.Add64"], unfollowed := true, recurses := true, named := ["unicode/utf8.first", "unicode/utf8.acceptRanges", "deckle/cell.names", "deckle/entry.frames", "internal/bytealg.MaxLen"], apart := false, laid := [("unicode/utf8.acceptRanges", laid_unicode_utf8_acceptRanges), ("deckle/cell.names", laid_deckle_cell_names), ("deckle/entry.frames", laid_deckle_entry_frames), ("unicode/utf8.first", laid_unicode_utf8_first)] }
def WriterReopensSaid : Prop := writerReopensRow.holds Tryz.pinned (OpenSpec.ofChange writerReopensSpec)

/-- ITS FALSE NEIGHBOUR: 'it returns false'. Refute it at one input. -/
def writerReopensWrong : ChangeSpec := { name := "writerReopens", fn := fun _ => fun
  | [d1, d2, d3] => { results := [.lit (.bool false)], args := [d1, d2, d3] }
  | _ => none }
def WriterReopensWrongFalsely : Prop := writerReopensRow.holds Tryz.pinned (OpenSpec.ofChange writerReopensWrong)

/-- 'decklelaw19.PlanLeast': WHATEVER THE INPUT: true; the input reads as it did. -/
def planLeastSpec : ChangeSpec := { name := "planLeast", fn := fun _ => fun
  | [d] => { results := [.lit (.bool true)], args := [d] }
  | _ => none }
def planLeastRow : OpenClaim := { program := "ytibpkfnfcdbiiaagreatdoor", sum := "7985862eeb59422f3823a4eb212c8c6c8930d02bdf3515e4f4bedaaa74a110f7", func := "deckle/decklelaw19.PlanLeast", spec := "planLeast", inPlace := ["internal/bytealg.IndexByteString", "internal/bytealg.IndexString", "internal/bytealg.abigen_runtime_cmpstring", "math/bits.Add64"], unfollowed := true, recurses := true, named := ["unicode/utf8.first", "unicode/utf8.acceptRanges", "deckle/cell.names", "deckle/entry.frames", "internal/bytealg.MaxLen"], apart := false, laid := [("unicode/utf8.acceptRanges", laid_unicode_utf8_acceptRanges), ("deckle/cell.names", laid_deckle_cell_names), ("deckle/entry.frames", laid_deckle_entry_frames), ("unicode/utf8.first", laid_unicode_utf8_first)] }
def PlanLeastSaid : Prop := planLeastRow.holds Tryz.pinned (OpenSpec.ofChange planLeastSpec)

/-- ITS FALSE NEIGHBOUR: 'it returns false'. Refute it at one input. -/
def planLeastWrong : ChangeSpec := { name := "planLeast", fn := fun _ => fun
  | [d] => { results := [.lit (.bool false)], args := [d] }
  | _ => none }
def PlanLeastWrongFalsely : Prop := planLeastRow.holds Tryz.pinned (OpenSpec.ofChange planLeastWrong)

/-- 'decklelaw19.PlanSums': WHATEVER THE INPUT: true; the input reads as it did. -/
def planSumsSpec : ChangeSpec := { name := "planSums", fn := fun _ => fun
  | [d1, d2] => { results := [.lit (.bool true)], args := [d1, d2] }
  | _ => none }
def planSumsRow : OpenClaim := { program := "ytibpkfnfcdbiiaagreatdoor", sum := "7985862eeb59422f3823a4eb212c8c6c8930d02bdf3515e4f4bedaaa74a110f7", func := "deckle/decklelaw19.PlanSums", spec := "planSums", inPlace := ["internal/bytealg.IndexByteString", "internal/bytealg.IndexString", "internal/bytealg.abigen_runtime_cmpstring", "math/bits.Add64"], unfollowed := true, recurses := true, named := ["unicode/utf8.first", "unicode/utf8.acceptRanges", "deckle/cell.names", "deckle/entry.frames", "internal/bytealg.MaxLen"], apart := false, laid := [("unicode/utf8.acceptRanges", laid_unicode_utf8_acceptRanges), ("deckle/cell.names", laid_deckle_cell_names), ("deckle/entry.frames", laid_deckle_entry_frames), ("unicode/utf8.first", laid_unicode_utf8_first)] }
def PlanSumsSaid : Prop := planSumsRow.holds Tryz.pinned (OpenSpec.ofChange planSumsSpec)

/-- ITS FALSE NEIGHBOUR: 'it returns false'. Refute it at one input. -/
def planSumsWrong : ChangeSpec := { name := "planSums", fn := fun _ => fun
  | [d1, d2] => { results := [.lit (.bool false)], args := [d1, d2] }
  | _ => none }
def PlanSumsWrongFalsely : Prop := planSumsRow.holds Tryz.pinned (OpenSpec.ofChange planSumsWrong)

/-- 'decklelaw19.PlanFolds': WHATEVER THE INPUT: true; the input reads as it did. -/
def planFoldsSpec : ChangeSpec := { name := "planFolds", fn := fun _ => fun
  | [d1, d2] => { results := [.lit (.bool true)], args := [d1, d2] }
  | _ => none }
def planFoldsRow : OpenClaim := { program := "ytibpkfnfcdbiiaagreatdoor", sum := "7985862eeb59422f3823a4eb212c8c6c8930d02bdf3515e4f4bedaaa74a110f7", func := "deckle/decklelaw19.PlanFolds", spec := "planFolds", inPlace := ["internal/bytealg.IndexByteString", "internal/bytealg.IndexString", "internal/bytealg.abigen_runtime_cmpstring", "math/bits.Add64"], unfollowed := true, recurses := true, named := ["unicode/utf8.first", "unicode/utf8.acceptRanges", "deckle/cell.names", "deckle/entry.frames", "internal/bytealg.MaxLen"], apart := false, laid := [("unicode/utf8.acceptRanges", laid_unicode_utf8_acceptRanges), ("deckle/cell.names", laid_deckle_cell_names), ("deckle/entry.frames", laid_deckle_entry_frames), ("unicode/utf8.first", laid_unicode_utf8_first)] }
def PlanFoldsSaid : Prop := planFoldsRow.holds Tryz.pinned (OpenSpec.ofChange planFoldsSpec)

/-- ITS FALSE NEIGHBOUR: 'it returns false'. Refute it at one input. -/
def planFoldsWrong : ChangeSpec := { name := "planFolds", fn := fun _ => fun
  | [d1, d2] => { results := [.lit (.bool false)], args := [d1, d2] }
  | _ => none }
def PlanFoldsWrongFalsely : Prop := planFoldsRow.holds Tryz.pinned (OpenSpec.ofChange planFoldsWrong)

/- THE SECOND FORM. 'bulk': how many values and letters a reading holds, each counted each time it is reached (what is shared counts as often as it is met; a slice's spare places count too). A statement '..UptoSaid' is the law's where the arguments, and the package variables that the reading takes, are together of bulk at most 1048576: NARROWER than '..Said'. Prove '..Said' where nothing that the law and all that it calls make is longer than what came in: it says more and counts as full. Else prove '..UptoSaid'. A law counts once. -/
mutual
def uptoBulk {H : Type} : DataW H → Nat
  | .lit (.string bytes) => bytes.length + 1
  | .lit _ => 1
  | .nil => 1
  | .ptr d => uptoBulk d + 1
  | .slice elems spare => uptoBulkAll elems + uptoBulkAll spare + 1
  | .agg parts => uptoBulkAll parts + 1
  | .iface _ d => uptoBulk d + 1
  | .map entries => uptoBulkEntries entries + 1
  | .held _ => 1
def uptoBulkAll {H : Type} : List (DataW H) → Nat
  | [] => 0
  | d :: r => uptoBulk d + uptoBulkAll r
def uptoBulkEntries {H : Type} : List (Lit × DataW H) → Nat
  | [] => 0
  | x :: r => uptoBulkEntry x + uptoBulkEntries r
def uptoBulkEntry {H : Type} : Lit × DataW H → Nat
  | (.string bytes, d) => bytes.length + uptoBulk d + 1
  | (_, d) => uptoBulk d + 1
 end
def uptoSmall : (H : Type) → List (DataW H) → Bool := fun _ ds => decide (uptoBulkAll ds ≤ 1048576)
def OpenSpec.upto (s : _root_.Go.ChangeSpec) : _root_.Go.OpenSpec := { _root_.Go.OpenSpec.ofChange s with cond := some uptoSmall }

/-- 'decklelaw14.WriterTraces', WHERE WHAT IT READS IS OF BULK AT MOST 1048576: true; the input reads as it did. -/
def writerTracesUptoRow : OpenClaim := { program := "ytibpkfnfcdbiiaagreatdoor", sum := "7985862eeb59422f3823a4eb212c8c6c8930d02bdf3515e4f4bedaaa74a110f7", func := "deckle/decklelaw14.WriterTraces", spec := "writerTraces", inPlace := ["internal/bytealg.IndexByteString", "internal/bytealg.IndexString", "internal/bytealg.abigen_runtime_cmpstring", "math/bits.Add64"], unfollowed := true, recurses := true, named := ["unicode/utf8.first", "unicode/utf8.acceptRanges", "deckle/cell.names", "deckle/entry.frames", "internal/bytealg.MaxLen"], apart := false, laid := [("unicode/utf8.acceptRanges", laid_unicode_utf8_acceptRanges), ("deckle/cell.names", laid_deckle_cell_names), ("deckle/entry.frames", laid_deckle_entry_frames), ("unicode/utf8.first", laid_unicode_utf8_first)], narrowed := true }
def WriterTracesUptoSaid : Prop := writerTracesUptoRow.holds Tryz.pinned (OpenSpec.upto writerTracesSpec)

/-- 'decklelaw18.CursorPlaces', WHERE WHAT IT READS IS OF BULK AT MOST 1048576: true; the input reads as it did. -/
def cursorPlacesUptoRow : OpenClaim := { program := "ytibpkfnfcdbiiaagreatdoor", sum := "7985862eeb59422f3823a4eb212c8c6c8930d02bdf3515e4f4bedaaa74a110f7", func := "deckle/decklelaw18.CursorPlaces", spec := "cursorPlaces", inPlace := ["internal/bytealg.IndexByteString", "internal/bytealg.IndexString", "internal/bytealg.abigen_runtime_cmpstring", "math/bits.Add64"], unfollowed := true, recurses := true, named := ["unicode/utf8.first", "unicode/utf8.acceptRanges", "deckle/cell.names", "deckle/entry.frames", "internal/bytealg.MaxLen"], apart := false, laid := [("unicode/utf8.acceptRanges", laid_unicode_utf8_acceptRanges), ("deckle/cell.names", laid_deckle_cell_names), ("deckle/entry.frames", laid_deckle_entry_frames), ("unicode/utf8.first", laid_unicode_utf8_first)], narrowed := true }
def CursorPlacesUptoSaid : Prop := cursorPlacesUptoRow.holds Tryz.pinned (OpenSpec.upto cursorPlacesSpec)

/-- 'decklelaw18.CursorEnds', WHERE WHAT IT READS IS OF BULK AT MOST 1048576: true; the input reads as it did. -/
def cursorEndsUptoRow : OpenClaim := { program := "ytibpkfnfcdbiiaagreatdoor", sum := "7985862eeb59422f3823a4eb212c8c6c8930d02bdf3515e4f4bedaaa74a110f7", func := "deckle/decklelaw18.CursorEnds", spec := "cursorEnds", inPlace := ["internal/bytealg.IndexByteString", "internal/bytealg.IndexString", "internal/bytealg.abigen_runtime_cmpstring", "math/bits.Add64"], unfollowed := true, recurses := true, named := ["unicode/utf8.first", "unicode/utf8.acceptRanges", "deckle/cell.names", "deckle/entry.frames", "internal/bytealg.MaxLen"], apart := false, laid := [("unicode/utf8.acceptRanges", laid_unicode_utf8_acceptRanges), ("deckle/cell.names", laid_deckle_cell_names), ("deckle/entry.frames", laid_deckle_entry_frames), ("unicode/utf8.first", laid_unicode_utf8_first)], narrowed := true }
def CursorEndsUptoSaid : Prop := cursorEndsUptoRow.holds Tryz.pinned (OpenSpec.upto cursorEndsSpec)

/-- 'decklelaw14.WriterOwn', WHERE WHAT IT READS IS OF BULK AT MOST 1048576: true; the input reads as it did. -/
def writerOwnUptoRow : OpenClaim := { program := "ytibpkfnfcdbiiaagreatdoor", sum := "7985862eeb59422f3823a4eb212c8c6c8930d02bdf3515e4f4bedaaa74a110f7", func := "deckle/decklelaw14.WriterOwn", spec := "writerOwn", inPlace := ["internal/bytealg.IndexByteString", "internal/bytealg.IndexString", "internal/bytealg.abigen_runtime_cmpstring", "math/bits.Add64"], unfollowed := true, recurses := true, named := ["unicode/utf8.first", "unicode/utf8.acceptRanges", "deckle/cell.names", "deckle/entry.frames", "internal/bytealg.MaxLen"], apart := false, laid := [("unicode/utf8.acceptRanges", laid_unicode_utf8_acceptRanges), ("deckle/cell.names", laid_deckle_cell_names), ("deckle/entry.frames", laid_deckle_entry_frames), ("unicode/utf8.first", laid_unicode_utf8_first)], narrowed := true }
def WriterOwnUptoSaid : Prop := writerOwnUptoRow.holds Tryz.pinned (OpenSpec.upto writerOwnSpec)

/-- 'decklelaw19.PlanOver', WHERE WHAT IT READS IS OF BULK AT MOST 1048576: true; the input reads as it did. -/
def planOverUptoRow : OpenClaim := { program := "ytibpkfnfcdbiiaagreatdoor", sum := "7985862eeb59422f3823a4eb212c8c6c8930d02bdf3515e4f4bedaaa74a110f7", func := "deckle/decklelaw19.PlanOver", spec := "planOver", inPlace := ["internal/bytealg.IndexByteString", "internal/bytealg.IndexString", "internal/bytealg.abigen_runtime_cmpstring", "math/bits.Add64"], unfollowed := true, recurses := true, named := ["unicode/utf8.first", "unicode/utf8.acceptRanges", "deckle/cell.names", "deckle/entry.frames", "internal/bytealg.MaxLen"], apart := false, laid := [("unicode/utf8.acceptRanges", laid_unicode_utf8_acceptRanges), ("deckle/cell.names", laid_deckle_cell_names), ("deckle/entry.frames", laid_deckle_entry_frames), ("unicode/utf8.first", laid_unicode_utf8_first)], narrowed := true }
def PlanOverUptoSaid : Prop := planOverUptoRow.holds Tryz.pinned (OpenSpec.upto planOverSpec)

/-- 'decklelaw19.PlanMost', WHERE WHAT IT READS IS OF BULK AT MOST 1048576: true; the input reads as it did. -/
def planMostUptoRow : OpenClaim := { program := "ytibpkfnfcdbiiaagreatdoor", sum := "7985862eeb59422f3823a4eb212c8c6c8930d02bdf3515e4f4bedaaa74a110f7", func := "deckle/decklelaw19.PlanMost", spec := "planMost", inPlace := ["internal/bytealg.IndexByteString", "internal/bytealg.IndexString", "internal/bytealg.abigen_runtime_cmpstring", "math/bits.Add64"], unfollowed := true, recurses := true, named := ["unicode/utf8.first", "unicode/utf8.acceptRanges", "deckle/cell.names", "deckle/entry.frames", "internal/bytealg.MaxLen"], apart := false, laid := [("unicode/utf8.acceptRanges", laid_unicode_utf8_acceptRanges), ("deckle/cell.names", laid_deckle_cell_names), ("deckle/entry.frames", laid_deckle_entry_frames), ("unicode/utf8.first", laid_unicode_utf8_first)], narrowed := true }
def PlanMostUptoSaid : Prop := planMostUptoRow.holds Tryz.pinned (OpenSpec.upto planMostSpec)

/-- 'decklelaw14.WriterReopens', WHERE WHAT IT READS IS OF BULK AT MOST 1048576: true; the input reads as it did. -/
def writerReopensUptoRow : OpenClaim := { program := "ytibpkfnfcdbiiaagreatdoor", sum := "7985862eeb59422f3823a4eb212c8c6c8930d02bdf3515e4f4bedaaa74a110f7", func := "deckle/decklelaw14.WriterReopens", spec := "writerReopens", inPlace := ["internal/bytealg.IndexByteString", "internal/bytealg.IndexString", "internal/bytealg.abigen_runtime_cmpstring", "math/bits.Add64"], unfollowed := true, recurses := true, named := ["unicode/utf8.first", "unicode/utf8.acceptRanges", "deckle/cell.names", "deckle/entry.frames", "internal/bytealg.MaxLen"], apart := false, laid := [("unicode/utf8.acceptRanges", laid_unicode_utf8_acceptRanges), ("deckle/cell.names", laid_deckle_cell_names), ("deckle/entry.frames", laid_deckle_entry_frames), ("unicode/utf8.first", laid_unicode_utf8_first)], narrowed := true }
def WriterReopensUptoSaid : Prop := writerReopensUptoRow.holds Tryz.pinned (OpenSpec.upto writerReopensSpec)

/-- 'decklelaw19.PlanLeast', WHERE WHAT IT READS IS OF BULK AT MOST 1048576: true; the input reads as it did. -/
def planLeastUptoRow : OpenClaim := { program := "ytibpkfnfcdbiiaagreatdoor", sum := "7985862eeb59422f3823a4eb212c8c6c8930d02bdf3515e4f4bedaaa74a110f7", func := "deckle/decklelaw19.PlanLeast", spec := "planLeast", inPlace := ["internal/bytealg.IndexByteString", "internal/bytealg.IndexString", "internal/bytealg.abigen_runtime_cmpstring", "math/bits.Add64"], unfollowed := true, recurses := true, named := ["unicode/utf8.first", "unicode/utf8.acceptRanges", "deckle/cell.names", "deckle/entry.frames", "internal/bytealg.MaxLen"], apart := false, laid := [("unicode/utf8.acceptRanges", laid_unicode_utf8_acceptRanges), ("deckle/cell.names", laid_deckle_cell_names), ("deckle/entry.frames", laid_deckle_entry_frames), ("unicode/utf8.first", laid_unicode_utf8_first)], narrowed := true }
def PlanLeastUptoSaid : Prop := planLeastUptoRow.holds Tryz.pinned (OpenSpec.upto planLeastSpec)

/-- 'decklelaw19.PlanSums', WHERE WHAT IT READS IS OF BULK AT MOST 1048576: true; the input reads as it did. -/
def planSumsUptoRow : OpenClaim := { program := "ytibpkfnfcdbiiaagreatdoor", sum := "7985862eeb59422f3823a4eb212c8c6c8930d02bdf3515e4f4bedaaa74a110f7", func := "deckle/decklelaw19.PlanSums", spec := "planSums", inPlace := ["internal/bytealg.IndexByteString", "internal/bytealg.IndexString", "internal/bytealg.abigen_runtime_cmpstring", "math/bits.Add64"], unfollowed := true, recurses := true, named := ["unicode/utf8.first", "unicode/utf8.acceptRanges", "deckle/cell.names", "deckle/entry.frames", "internal/bytealg.MaxLen"], apart := false, laid := [("unicode/utf8.acceptRanges", laid_unicode_utf8_acceptRanges), ("deckle/cell.names", laid_deckle_cell_names), ("deckle/entry.frames", laid_deckle_entry_frames), ("unicode/utf8.first", laid_unicode_utf8_first)], narrowed := true }
def PlanSumsUptoSaid : Prop := planSumsUptoRow.holds Tryz.pinned (OpenSpec.upto planSumsSpec)

/-- 'decklelaw19.PlanFolds', WHERE WHAT IT READS IS OF BULK AT MOST 1048576: true; the input reads as it did. -/
def planFoldsUptoRow : OpenClaim := { program := "ytibpkfnfcdbiiaagreatdoor", sum := "7985862eeb59422f3823a4eb212c8c6c8930d02bdf3515e4f4bedaaa74a110f7", func := "deckle/decklelaw19.PlanFolds", spec := "planFolds", inPlace := ["internal/bytealg.IndexByteString", "internal/bytealg.IndexString", "internal/bytealg.abigen_runtime_cmpstring", "math/bits.Add64"], unfollowed := true, recurses := true, named := ["unicode/utf8.first", "unicode/utf8.acceptRanges", "deckle/cell.names", "deckle/entry.frames", "internal/bytealg.MaxLen"], apart := false, laid := [("unicode/utf8.acceptRanges", laid_unicode_utf8_acceptRanges), ("deckle/cell.names", laid_deckle_cell_names), ("deckle/entry.frames", laid_deckle_entry_frames), ("unicode/utf8.first", laid_unicode_utf8_first)], narrowed := true }
def PlanFoldsUptoSaid : Prop := planFoldsUptoRow.holds Tryz.pinned (OpenSpec.upto planFoldsSpec)

end Rows
end Go.Proofs.YtibpkfnfcdbiiaaGreatDoor
