/-
  NARROWER THAN 'FOR EVERY INPUT', by the rows' own cells (each row's printed sentence says how): BatchOne: laid · EntryFolds: laid · EntrySigns: laid · ViewResets: laid · ViewOrder: laid · ViewSplits: laid · ViewBare: laid.
  DERIVED. THE GIVEN ROWS OF THIS SEAT. 7 by the template 'for every input the law returns true; each argument reads behind the call as it read before'; 0 by the template 'total and deterministic' (their statements: YtfbnegdaglbdiaaDoorTotals.lean).
  GIVEN WITH THE SEED: the statements are not yours to turn. If you find one false, say at which input.
  Laid BY PROGRAM, IN A SANDBOX (cutbox-rows.mjs): the forced cells as the released guide's own fill.sh prints them over the translation 3c3940b2f1b7a30b… (all of the seat's roots in one cut). By AI agents, Wed Nov 11 2026. No macro, syntax, notation, axiom, sorry.
-/
import Derived.Test.YtfbnegdaglbdiaaDoorChecked
import GoSem.PinnedTables
import GoSem.Claim
import GoSem.ClaimJoined
import GoSem.ClaimMapViews
import Derived.JoinedTies
import Derived.KernelRfl
namespace Go.Proofs.YtfbnegdaglbdiaaDoor
/- THE CELL 'sum', in the pinned program and in every row, IS THE sha256 OF THE DUMP (.gsa) THAT YtfbnegdaglbdiaaDoorProg.lean LOADS. Nothing in Lean hashes anything: it is a label: what it is worth is what the hold of that sum in a sandbox is worth. -/
noncomputable def Tryd.pinned : Pinned := { name := "ytfbnegdaglbdiaadoor", sum := "3c3940b2f1b7a30b4bb7ecd574c756974936dd1335b52239cd733de55426fe8c", checked := Tryd.checked }
namespace Rows
def none {H : Type} : Left H := { results := [], args := [] }

/- WHAT THE LISTED PACKAGE-LEVEL VARIABLES READ AS WHEN THE CALL BEGINS. Each datum BY PROGRAM (the guide's laid-datum.mjs) off the statement by which the dump's own 'gosem.cut.vars' lays the variable. In a bare row this is a premise. The card (YtfbnegdaglbdiaaDoorCards.lean) ties it to the program's text. -/
def laid_unicode_utf8_acceptRanges {H : Type} : DataW H := .agg [.agg [.lit (.int .u8 128), .lit (.int .u8 191)], .agg [.lit (.int .u8 160), .lit (.int .u8 191)], .agg [.lit (.int .u8 128), .lit (.int .u8 159)], .agg [.lit (.int .u8 144), .lit (.int .u8 191)], .agg [.lit (.int .u8 128), .lit (.int .u8 143)], .agg [.lit (.int .u8 0), .lit (.int .u8 0)], .agg [.lit (.int .u8 0), .lit (.int .u8 0)], .agg [.lit (.int .u8 0), .lit (.int .u8 0)], .agg [.lit (.int .u8 0), .lit (.int .u8 0)], .agg [.lit (.int .u8 0), .lit (.int .u8 0)], .agg [.lit (.int .u8 0), .lit (.int .u8 0)], .agg [.lit (.int .u8 0), .lit (.int .u8 0)], .agg [.lit (.int .u8 0), .lit (.int .u8 0)], .agg [.lit (.int .u8 0), .lit (.int .u8 0)], .agg [.lit (.int .u8 0), .lit (.int .u8 0)], .agg [.lit (.int .u8 0), .lit (.int .u8 0)]]
def laid_deckle_cell_names {H : Type} : DataW H := .agg [.lit (.string [105, 110, 116]), .lit (.string [117, 105, 110, 116]), .lit (.string [98, 111, 111, 108]), .lit (.string [98, 121, 116, 101, 115]), .lit (.string [116, 101, 120, 116]), .lit (.string [102, 108, 111, 97, 116])]
/-- One of Go's own tables, pinned by name: the form's constant. -/
def laid_unicode_utf8_first : DataW Unit := Go.Pinned.utf8First

/-- 'decklelaw10.BatchOne': WHATEVER THE INPUT: true; the input reads as it did. -/
def batchOneSpec : ChangeSpec := { name := "batchOne", fn := fun _ => fun
  | [d1, d2] => { results := [.lit (.bool true)], args := [d1, d2] }
  | _ => none }
def batchOneRow : OpenClaim := { program := "ytfbnegdaglbdiaadoor", sum := "3c3940b2f1b7a30b4bb7ecd574c756974936dd1335b52239cd733de55426fe8c", func := "deckle/decklelaw10.BatchOne", spec := "batchOne", inPlace := ["internal/bytealg.IndexByteString", "internal/bytealg.IndexString", "internal/bytealg.abigen_runtime_cmpstring"], unfollowed := true, recurses := true, named := ["unicode/utf8.first", "unicode/utf8.acceptRanges", "deckle/cell.names", "internal/bytealg.MaxLen"], apart := false, laid := [("unicode/utf8.acceptRanges", laid_unicode_utf8_acceptRanges), ("deckle/cell.names", laid_deckle_cell_names), ("unicode/utf8.first", laid_unicode_utf8_first)] }
def BatchOneSaid : Prop := batchOneRow.holds Tryd.pinned (OpenSpec.ofChange batchOneSpec)

/-- ITS FALSE NEIGHBOUR: 'it returns false'. Refute it at one input. -/
def batchOneWrong : ChangeSpec := { name := "batchOne", fn := fun _ => fun
  | [d1, d2] => { results := [.lit (.bool false)], args := [d1, d2] }
  | _ => none }
def BatchOneWrongFalsely : Prop := batchOneRow.holds Tryd.pinned (OpenSpec.ofChange batchOneWrong)

/-- 'decklelaw12.EntryFolds': WHATEVER THE INPUT: true; the input reads as it did. -/
def entryFoldsSpec : ChangeSpec := { name := "entryFolds", fn := fun _ => fun
  | [d1, d2] => { results := [.lit (.bool true)], args := [d1, d2] }
  | _ => none }
def entryFoldsRow : OpenClaim := { program := "ytfbnegdaglbdiaadoor", sum := "3c3940b2f1b7a30b4bb7ecd574c756974936dd1335b52239cd733de55426fe8c", func := "deckle/decklelaw12.EntryFolds", spec := "entryFolds", inPlace := ["internal/bytealg.IndexByteString", "internal/bytealg.IndexString", "internal/bytealg.abigen_runtime_cmpstring", "math/bits.Add64"], unfollowed := true, recurses := true, named := ["unicode/utf8.first", "unicode/utf8.acceptRanges", "deckle/cell.names", "internal/bytealg.MaxLen"], apart := false, laid := [("unicode/utf8.acceptRanges", laid_unicode_utf8_acceptRanges), ("deckle/cell.names", laid_deckle_cell_names), ("unicode/utf8.first", laid_unicode_utf8_first)] }
def EntryFoldsSaid : Prop := entryFoldsRow.holds Tryd.pinned (OpenSpec.ofChange entryFoldsSpec)

/-- ITS FALSE NEIGHBOUR: 'it returns false'. Refute it at one input. -/
def entryFoldsWrong : ChangeSpec := { name := "entryFolds", fn := fun _ => fun
  | [d1, d2] => { results := [.lit (.bool false)], args := [d1, d2] }
  | _ => none }
def EntryFoldsWrongFalsely : Prop := entryFoldsRow.holds Tryd.pinned (OpenSpec.ofChange entryFoldsWrong)

/-- 'decklelaw12.EntrySigns': WHATEVER THE INPUT: true; the input reads as it did. -/
def entrySignsSpec : ChangeSpec := { name := "entrySigns", fn := fun _ => fun
  | [d1, d2, d3] => { results := [.lit (.bool true)], args := [d1, d2, d3] }
  | _ => none }
def entrySignsRow : OpenClaim := { program := "ytfbnegdaglbdiaadoor", sum := "3c3940b2f1b7a30b4bb7ecd574c756974936dd1335b52239cd733de55426fe8c", func := "deckle/decklelaw12.EntrySigns", spec := "entrySigns", inPlace := ["internal/bytealg.IndexByteString", "internal/bytealg.IndexString", "internal/bytealg.abigen_runtime_cmpstring", "math/bits.Add64"], unfollowed := true, recurses := true, named := ["unicode/utf8.first", "unicode/utf8.acceptRanges", "deckle/cell.names", "internal/bytealg.MaxLen"], apart := false, laid := [("unicode/utf8.acceptRanges", laid_unicode_utf8_acceptRanges), ("deckle/cell.names", laid_deckle_cell_names), ("unicode/utf8.first", laid_unicode_utf8_first)] }
def EntrySignsSaid : Prop := entrySignsRow.holds Tryd.pinned (OpenSpec.ofChange entrySignsSpec)

/-- ITS FALSE NEIGHBOUR: 'it returns false'. Refute it at one input. -/
def entrySignsWrong : ChangeSpec := { name := "entrySigns", fn := fun _ => fun
  | [d1, d2, d3] => { results := [.lit (.bool false)], args := [d1, d2, d3] }
  | _ => none }
def EntrySignsWrongFalsely : Prop := entrySignsRow.holds Tryd.pinned (OpenSpec.ofChange entrySignsWrong)

/-- 'decklelaw17.ViewResets': WHATEVER THE INPUT: true; the input reads as it did. -/
def viewResetsSpec : ChangeSpec := { name := "viewResets", fn := fun _ => fun
  | [d1, d2, d3] => { results := [.lit (.bool true)], args := [d1, d2, d3] }
  | _ => none }
def viewResetsRow : OpenClaim := { program := "ytfbnegdaglbdiaadoor", sum := "3c3940b2f1b7a30b4bb7ecd574c756974936dd1335b52239cd733de55426fe8c", func := "deckle/decklelaw17.ViewResets", spec := "viewResets", inPlace := ["internal/bytealg.IndexByteString", "internal/bytealg.IndexString", "internal/bytealg.abigen_runtime_cmpstring", "math/bits.Add64"], unfollowed := true, recurses := true, named := ["unicode/utf8.first", "unicode/utf8.acceptRanges", "deckle/cell.names", "internal/bytealg.MaxLen"], apart := false, laid := [("unicode/utf8.acceptRanges", laid_unicode_utf8_acceptRanges), ("deckle/cell.names", laid_deckle_cell_names), ("unicode/utf8.first", laid_unicode_utf8_first)] }
def ViewResetsSaid : Prop := viewResetsRow.holds Tryd.pinned (OpenSpec.ofChange viewResetsSpec)

/-- ITS FALSE NEIGHBOUR: 'it returns false'. Refute it at one input. -/
def viewResetsWrong : ChangeSpec := { name := "viewResets", fn := fun _ => fun
  | [d1, d2, d3] => { results := [.lit (.bool false)], args := [d1, d2, d3] }
  | _ => none }
def ViewResetsWrongFalsely : Prop := viewResetsRow.holds Tryd.pinned (OpenSpec.ofChange viewResetsWrong)

/-- 'decklelaw17.ViewOrder': WHATEVER THE INPUT: true; the input reads as it did. -/
def viewOrderSpec : ChangeSpec := { name := "viewOrder", fn := fun _ => fun
  | [d1, d2] => { results := [.lit (.bool true)], args := [d1, d2] }
  | _ => none }
def viewOrderRow : OpenClaim := { program := "ytfbnegdaglbdiaadoor", sum := "3c3940b2f1b7a30b4bb7ecd574c756974936dd1335b52239cd733de55426fe8c", func := "deckle/decklelaw17.ViewOrder", spec := "viewOrder", inPlace := ["internal/bytealg.IndexByteString", "internal/bytealg.IndexString", "internal/bytealg.abigen_runtime_cmpstring", "math/bits.Add64"], unfollowed := true, recurses := true, named := ["unicode/utf8.first", "unicode/utf8.acceptRanges", "deckle/cell.names", "internal/bytealg.MaxLen"], apart := false, laid := [("unicode/utf8.acceptRanges", laid_unicode_utf8_acceptRanges), ("deckle/cell.names", laid_deckle_cell_names), ("unicode/utf8.first", laid_unicode_utf8_first)] }
def ViewOrderSaid : Prop := viewOrderRow.holds Tryd.pinned (OpenSpec.ofChange viewOrderSpec)

/-- ITS FALSE NEIGHBOUR: 'it returns false'. Refute it at one input. -/
def viewOrderWrong : ChangeSpec := { name := "viewOrder", fn := fun _ => fun
  | [d1, d2] => { results := [.lit (.bool false)], args := [d1, d2] }
  | _ => none }
def ViewOrderWrongFalsely : Prop := viewOrderRow.holds Tryd.pinned (OpenSpec.ofChange viewOrderWrong)

/-- 'decklelaw17.ViewSplits': WHATEVER THE INPUT: true; the input reads as it did. -/
def viewSplitsSpec : ChangeSpec := { name := "viewSplits", fn := fun _ => fun
  | [d1, d2, d3] => { results := [.lit (.bool true)], args := [d1, d2, d3] }
  | _ => none }
def viewSplitsRow : OpenClaim := { program := "ytfbnegdaglbdiaadoor", sum := "3c3940b2f1b7a30b4bb7ecd574c756974936dd1335b52239cd733de55426fe8c", func := "deckle/decklelaw17.ViewSplits", spec := "viewSplits", inPlace := ["internal/bytealg.IndexByteString", "internal/bytealg.IndexString", "internal/bytealg.abigen_runtime_cmpstring", "math/bits.Add64"], unfollowed := true, recurses := true, named := ["unicode/utf8.first", "unicode/utf8.acceptRanges", "deckle/cell.names", "internal/bytealg.MaxLen"], apart := false, laid := [("unicode/utf8.acceptRanges", laid_unicode_utf8_acceptRanges), ("deckle/cell.names", laid_deckle_cell_names), ("unicode/utf8.first", laid_unicode_utf8_first)] }
def ViewSplitsSaid : Prop := viewSplitsRow.holds Tryd.pinned (OpenSpec.ofChange viewSplitsSpec)

/-- ITS FALSE NEIGHBOUR: 'it returns false'. Refute it at one input. -/
def viewSplitsWrong : ChangeSpec := { name := "viewSplits", fn := fun _ => fun
  | [d1, d2, d3] => { results := [.lit (.bool false)], args := [d1, d2, d3] }
  | _ => none }
def ViewSplitsWrongFalsely : Prop := viewSplitsRow.holds Tryd.pinned (OpenSpec.ofChange viewSplitsWrong)

/-- 'decklelaw17.ViewBare': WHATEVER THE INPUT: true; the input reads as it did. -/
def viewBareSpec : ChangeSpec := { name := "viewBare", fn := fun _ => fun
  | [d1, d2, d3] => { results := [.lit (.bool true)], args := [d1, d2, d3] }
  | _ => none }
def viewBareRow : OpenClaim := { program := "ytfbnegdaglbdiaadoor", sum := "3c3940b2f1b7a30b4bb7ecd574c756974936dd1335b52239cd733de55426fe8c", func := "deckle/decklelaw17.ViewBare", spec := "viewBare", inPlace := ["internal/bytealg.IndexByteString", "internal/bytealg.IndexString", "internal/bytealg.abigen_runtime_cmpstring", "math/bits.Add64"], unfollowed := true, recurses := true, named := ["unicode/utf8.first", "unicode/utf8.acceptRanges", "deckle/cell.names", "internal/bytealg.MaxLen"], apart := false, laid := [("unicode/utf8.acceptRanges", laid_unicode_utf8_acceptRanges), ("deckle/cell.names", laid_deckle_cell_names), ("unicode/utf8.first", laid_unicode_utf8_first)] }
def ViewBareSaid : Prop := viewBareRow.holds Tryd.pinned (OpenSpec.ofChange viewBareSpec)

/-- ITS FALSE NEIGHBOUR: 'it returns false'. Refute it at one input. -/
def viewBareWrong : ChangeSpec := { name := "viewBare", fn := fun _ => fun
  | [d1, d2, d3] => { results := [.lit (.bool false)], args := [d1, d2, d3] }
  | _ => none }
def ViewBareWrongFalsely : Prop := viewBareRow.holds Tryd.pinned (OpenSpec.ofChange viewBareWrong)

/- THE SECOND FORM. 'bulk': how many values and letters a reading holds, each counted each time it is reached (what is shared counts as often as it is met; a slice's spare places count too). A statement '..UptoSaid' is the law's where the arguments, and the package variables that the reading takes, are together of bulk at most 1048576: NARROWER than '..Said'. Prove '..Said' where nothing that the law and all that it calls make is longer than what came in: it says more and counts as full. Else prove '..UptoSaid'. A law counts once. -/
mutual
def uptoBulk {H : Type} : DataW H → Nat
  | .lit (.string bytes) => bytes.length + 1
  | .lit _ => 1
  | .nil => 1
  | .ptr d => uptoBulk d + 1
  | .slice elems spare => uptoBulkAll elems + uptoBulkAll spare + 1
  | .agg parts => uptoBulkAll parts + 1
  | .iface _ d => uptoBulk d + 1
  | .map entries => uptoBulkEntries entries + 1
  | .held _ => 1
def uptoBulkAll {H : Type} : List (DataW H) → Nat
  | [] => 0
  | d :: r => uptoBulk d + uptoBulkAll r
def uptoBulkEntries {H : Type} : List (Lit × DataW H) → Nat
  | [] => 0
  | x :: r => uptoBulkEntry x + uptoBulkEntries r
def uptoBulkEntry {H : Type} : Lit × DataW H → Nat
  | (.string bytes, d) => bytes.length + uptoBulk d + 1
  | (_, d) => uptoBulk d + 1
 end
def uptoSmall : (H : Type) → List (DataW H) → Bool := fun _ ds => decide (uptoBulkAll ds ≤ 1048576)
def OpenSpec.upto (s : _root_.Go.ChangeSpec) : _root_.Go.OpenSpec := { _root_.Go.OpenSpec.ofChange s with cond := some uptoSmall }

/-- 'decklelaw10.BatchOne', WHERE WHAT IT READS IS OF BULK AT MOST 1048576: true; the input reads as it did. -/
def batchOneUptoRow : OpenClaim := { program := "ytfbnegdaglbdiaadoor", sum := "3c3940b2f1b7a30b4bb7ecd574c756974936dd1335b52239cd733de55426fe8c", func := "deckle/decklelaw10.BatchOne", spec := "batchOne", inPlace := ["internal/bytealg.IndexByteString", "internal/bytealg.IndexString", "internal/bytealg.abigen_runtime_cmpstring"], unfollowed := true, recurses := true, named := ["unicode/utf8.first", "unicode/utf8.acceptRanges", "deckle/cell.names", "internal/bytealg.MaxLen"], apart := false, laid := [("unicode/utf8.acceptRanges", laid_unicode_utf8_acceptRanges), ("deckle/cell.names", laid_deckle_cell_names), ("unicode/utf8.first", laid_unicode_utf8_first)], narrowed := true }
def BatchOneUptoSaid : Prop := batchOneUptoRow.holds Tryd.pinned (OpenSpec.upto batchOneSpec)

/-- 'decklelaw12.EntryFolds', WHERE WHAT IT READS IS OF BULK AT MOST 1048576: true; the input reads as it did. -/
def entryFoldsUptoRow : OpenClaim := { program := "ytfbnegdaglbdiaadoor", sum := "3c3940b2f1b7a30b4bb7ecd574c756974936dd1335b52239cd733de55426fe8c", func := "deckle/decklelaw12.EntryFolds", spec := "entryFolds", inPlace := ["internal/bytealg.IndexByteString", "internal/bytealg.IndexString", "internal/bytealg.abigen_runtime_cmpstring", "math/bits.Add64"], unfollowed := true, recurses := true, named := ["unicode/utf8.first", "unicode/utf8.acceptRanges", "deckle/cell.names", "internal/bytealg.MaxLen"], apart := false, laid := [("unicode/utf8.acceptRanges", laid_unicode_utf8_acceptRanges), ("deckle/cell.names", laid_deckle_cell_names), ("unicode/utf8.first", laid_unicode_utf8_first)], narrowed := true }
def EntryFoldsUptoSaid : Prop := entryFoldsUptoRow.holds Tryd.pinned (OpenSpec.upto entryFoldsSpec)

/-- 'decklelaw12.EntrySigns', WHERE WHAT IT READS IS OF BULK AT MOST 1048576: true; the input reads as it did. -/
def entrySignsUptoRow : OpenClaim := { program := "ytfbnegdaglbdiaadoor", sum := "3c3940b2f1b7a30b4bb7ecd574c756974936dd1335b52239cd733de55426fe8c", func := "deckle/decklelaw12.EntrySigns", spec := "entrySigns", inPlace := ["internal/bytealg.IndexByteString", "internal/bytealg.IndexString", "internal/bytealg.abigen_runtime_cmpstring", "math/bits.Add64"], unfollowed := true, recurses := true, named := ["unicode/utf8.first", "unicode/utf8.acceptRanges", "deckle/cell.names", "internal/bytealg.MaxLen"], apart := false, laid := [("unicode/utf8.acceptRanges", laid_unicode_utf8_acceptRanges), ("deckle/cell.names", laid_deckle_cell_names), ("unicode/utf8.first", laid_unicode_utf8_first)], narrowed := true }
def EntrySignsUptoSaid : Prop := entrySignsUptoRow.holds Tryd.pinned (OpenSpec.upto entrySignsSpec)

/-- 'decklelaw17.ViewResets', WHERE WHAT IT READS IS OF BULK AT MOST 1048576: true; the input reads as it did. -/
def viewResetsUptoRow : OpenClaim := { program := "ytfbnegdaglbdiaadoor", sum := "3c3940b2f1b7a30b4bb7ecd574c756974936dd1335b52239cd733de55426fe8c", func := "deckle/decklelaw17.ViewResets", spec := "viewResets", inPlace := ["internal/bytealg.IndexByteString", "internal/bytealg.IndexString", "internal/bytealg.abigen_runtime_cmpstring", "math/bits.Add64"], unfollowed := true, recurses := true, named := ["unicode/utf8.first", "unicode/utf8.acceptRanges", "deckle/cell.names", "internal/bytealg.MaxLen"], apart := false, laid := [("unicode/utf8.acceptRanges", laid_unicode_utf8_acceptRanges), ("deckle/cell.names", laid_deckle_cell_names), ("unicode/utf8.first", laid_unicode_utf8_first)], narrowed := true }
def ViewResetsUptoSaid : Prop := viewResetsUptoRow.holds Tryd.pinned (OpenSpec.upto viewResetsSpec)

/-- 'decklelaw17.ViewOrder', WHERE WHAT IT READS IS OF BULK AT MOST 1048576: true; the input reads as it did. -/
def viewOrderUptoRow : OpenClaim := { program := "ytfbnegdaglbdiaadoor", sum := "3c3940b2f1b7a30b4bb7ecd574c756974936dd1335b52239cd733de55426fe8c", func := "deckle/decklelaw17.ViewOrder", spec := "viewOrder", inPlace := ["internal/bytealg.IndexByteString", "internal/bytealg.IndexString", "internal/bytealg.abigen_runtime_cmpstring", "math/bits.Add64"], unfollowed := true, recurses := true, named := ["unicode/utf8.first", "unicode/utf8.acceptRanges", "deckle/cell.names", "internal/bytealg.MaxLen"], apart := false, laid := [("unicode/utf8.acceptRanges", laid_unicode_utf8_acceptRanges), ("deckle/cell.names", laid_deckle_cell_names), ("unicode/utf8.first", laid_unicode_utf8_first)], narrowed := true }
def ViewOrderUptoSaid : Prop := viewOrderUptoRow.holds Tryd.pinned (OpenSpec.upto viewOrderSpec)

/-- 'decklelaw17.ViewSplits', WHERE WHAT IT READS IS OF BULK AT MOST 1048576: true; the input reads as it did. -/
def viewSplitsUptoRow : OpenClaim := { program := "ytfbnegdaglbdiaadoor", sum := "3c3940b2f1b7a30b4bb7ecd574c756974936dd1335b52239cd733de55426fe8c", func := "deckle/decklelaw17.ViewSplits", spec := "viewSplits", inPlace := ["internal/bytealg.IndexByteString", "internal/bytealg.IndexString", "internal/bytealg.abigen_runtime_cmpstring", "math/bits.Add64"], unfollowed := true, recurses := true, named := ["unicode/utf8.first", "unicode/utf8.acceptRanges", "deckle/cell.names", "internal/bytealg.MaxLen"], apart := false, laid := [("unicode/utf8.acceptRanges", laid_unicode_utf8_acceptRanges), ("deckle/cell.names", laid_deckle_cell_names), ("unicode/utf8.first", laid_unicode_utf8_first)], narrowed := true }
def ViewSplitsUptoSaid : Prop := viewSplitsUptoRow.holds Tryd.pinned (OpenSpec.upto viewSplitsSpec)

/-- 'decklelaw17.ViewBare', WHERE WHAT IT READS IS OF BULK AT MOST 1048576: true; the input reads as it did. -/
def viewBareUptoRow : OpenClaim := { program := "ytfbnegdaglbdiaadoor", sum := "3c3940b2f1b7a30b4bb7ecd574c756974936dd1335b52239cd733de55426fe8c", func := "deckle/decklelaw17.ViewBare", spec := "viewBare", inPlace := ["internal/bytealg.IndexByteString", "internal/bytealg.IndexString", "internal/bytealg.abigen_runtime_cmpstring", "math/bits.Add64"], unfollowed := true, recurses := true, named := ["unicode/utf8.first", "unicode/utf8.acceptRanges", "deckle/cell.names", "internal/bytealg.MaxLen"], apart := false, laid := [("unicode/utf8.acceptRanges", laid_unicode_utf8_acceptRanges), ("deckle/cell.names", laid_deckle_cell_names), ("unicode/utf8.first", laid_unicode_utf8_first)], narrowed := true }
def ViewBareUptoSaid : Prop := viewBareUptoRow.holds Tryd.pinned (OpenSpec.upto viewBareSpec)

end Rows
end Go.Proofs.YtfbnegdaglbdiaaDoor
