/-
  NARROWER THAN 'FOR EVERY INPUT', by the rows' own cells (each row's printed sentence says how): BatchRow: laid · BatchBack: laid · BatchSums: laid.
  DERIVED. THE GIVEN ROWS OF THIS SEAT. 3 by the template 'for every input the law returns true; each argument reads behind the call as it read before'; 0 by the template 'total and deterministic' (their statements: YtiopngpkfhgbpaaGreatDoorTotals.lean).
  GIVEN WITH THE SEED: the statements are not yours to turn. If you find one false, say at which input.
  Laid BY PROGRAM, IN A SANDBOX (cutbox-rows.mjs): the forced cells as the released guide's own fill.sh prints them over the translation 3cd802183321ae72… (all of the seat's roots in one cut). By AI agents, Wed Nov 11 2026. No macro, syntax, notation, axiom, sorry.
-/
import Derived.Test.YtiopngpkfhgbpaaGreatDoorChecked
import GoSem.PinnedTables
import GoSem.Claim
import GoSem.ClaimJoined
import GoSem.ClaimMapViews
import Derived.JoinedTies
import Derived.KernelRfl
namespace Go.Proofs.YtiopngpkfhgbpaaGreatDoor
/- THE CELL 'sum', in the pinned program and in every row, IS THE sha256 OF THE DUMP (.gsa) THAT YtiopngpkfhgbpaaGreatDoorProg.lean LOADS. Nothing in Lean hashes anything: it is a label: what it is worth is what the hold of that sum in a sandbox is worth. -/
noncomputable def Tryz.pinned : Pinned := { name := "ytiopngpkfhgbpaagreatdoor", sum := "3cd802183321ae72aef1639704f3eb00c45b49e3ddfcf7cf87a801bf71ac9e18", checked := Tryz.checked }
namespace Rows
def none {H : Type} : Left H := { results := [], args := [] }

/- WHAT THE LISTED PACKAGE-LEVEL VARIABLES READ AS WHEN THE CALL BEGINS. Each datum BY PROGRAM (the guide's laid-datum.mjs) off the statement by which the dump's own 'gosem.cut.vars' lays the variable. In a bare row this is a premise. The card (YtiopngpkfhgbpaaGreatDoorCards.lean) ties it to the program's text. -/
def laid_unicode_utf8_acceptRanges {H : Type} : DataW H := .agg [.agg [.lit (.int .u8 128), .lit (.int .u8 191)], .agg [.lit (.int .u8 160), .lit (.int .u8 191)], .agg [.lit (.int .u8 128), .lit (.int .u8 159)], .agg [.lit (.int .u8 144), .lit (.int .u8 191)], .agg [.lit (.int .u8 128), .lit (.int .u8 143)], .agg [.lit (.int .u8 0), .lit (.int .u8 0)], .agg [.lit (.int .u8 0), .lit (.int .u8 0)], .agg [.lit (.int .u8 0), .lit (.int .u8 0)], .agg [.lit (.int .u8 0), .lit (.int .u8 0)], .agg [.lit (.int .u8 0), .lit (.int .u8 0)], .agg [.lit (.int .u8 0), .lit (.int .u8 0)], .agg [.lit (.int .u8 0), .lit (.int .u8 0)], .agg [.lit (.int .u8 0), .lit (.int .u8 0)], .agg [.lit (.int .u8 0), .lit (.int .u8 0)], .agg [.lit (.int .u8 0), .lit (.int .u8 0)], .agg [.lit (.int .u8 0), .lit (.int .u8 0)]]
def laid_deckle_cell_names {H : Type} : DataW H := .agg [.lit (.string [105, 110, 116]), .lit (.string [117, 105, 110, 116]), .lit (.string [98, 111, 111, 108]), .lit (.string [98, 121, 116, 101, 115]), .lit (.string [116, 101, 120, 116]), .lit (.string [102, 108, 111, 97, 116])]
/-- One of Go's own tables, pinned by name: the form's constant. -/
def laid_unicode_utf8_first : DataW Unit := Go.Pinned.utf8First

/-- 'decklelaw10.BatchRow': WHATEVER THE INPUT: true; the input reads as it did. -/
def batchRowSpec : ChangeSpec := { name := "batchRow", fn := fun _ => fun
  | [d1, d2] => { results := [.lit (.bool true)], args := [d1, d2] }
  | _ => none }
def batchRowRow : OpenClaim := { program := "ytiopngpkfhgbpaagreatdoor", sum := "3cd802183321ae72aef1639704f3eb00c45b49e3ddfcf7cf87a801bf71ac9e18", func := "deckle/decklelaw10.BatchRow", spec := "batchRow", inPlace := ["internal/bytealg.IndexByteString", "internal/bytealg.IndexString", "internal/bytealg.abigen_runtime_cmpstring", "math/bits.Add64"], unfollowed := true, recurses := true, named := ["unicode/utf8.first", "unicode/utf8.acceptRanges", "deckle/cell.names", "internal/bytealg.MaxLen"], apart := false, laid := [("unicode/utf8.acceptRanges", laid_unicode_utf8_acceptRanges), ("deckle/cell.names", laid_deckle_cell_names), ("unicode/utf8.first", laid_unicode_utf8_first)] }
def BatchRowSaid : Prop := batchRowRow.holds Tryz.pinned (OpenSpec.ofChange batchRowSpec)

/-- ITS FALSE NEIGHBOUR: 'it returns false'. Refute it at one input. -/
def batchRowWrong : ChangeSpec := { name := "batchRow", fn := fun _ => fun
  | [d1, d2] => { results := [.lit (.bool false)], args := [d1, d2] }
  | _ => none }
def BatchRowWrongFalsely : Prop := batchRowRow.holds Tryz.pinned (OpenSpec.ofChange batchRowWrong)

/-- 'decklelaw10.BatchBack': WHATEVER THE INPUT: true; the input reads as it did. -/
def batchBackSpec : ChangeSpec := { name := "batchBack", fn := fun _ => fun
  | [d1, d2] => { results := [.lit (.bool true)], args := [d1, d2] }
  | _ => none }
def batchBackRow : OpenClaim := { program := "ytiopngpkfhgbpaagreatdoor", sum := "3cd802183321ae72aef1639704f3eb00c45b49e3ddfcf7cf87a801bf71ac9e18", func := "deckle/decklelaw10.BatchBack", spec := "batchBack", inPlace := ["internal/bytealg.IndexByteString", "internal/bytealg.IndexString", "internal/bytealg.abigen_runtime_cmpstring", "math/bits.Add64"], unfollowed := true, recurses := true, named := ["unicode/utf8.first", "unicode/utf8.acceptRanges", "deckle/cell.names", "internal/bytealg.MaxLen"], apart := false, laid := [("unicode/utf8.acceptRanges", laid_unicode_utf8_acceptRanges), ("deckle/cell.names", laid_deckle_cell_names), ("unicode/utf8.first", laid_unicode_utf8_first)] }
def BatchBackSaid : Prop := batchBackRow.holds Tryz.pinned (OpenSpec.ofChange batchBackSpec)

/-- ITS FALSE NEIGHBOUR: 'it returns false'. Refute it at one input. -/
def batchBackWrong : ChangeSpec := { name := "batchBack", fn := fun _ => fun
  | [d1, d2] => { results := [.lit (.bool false)], args := [d1, d2] }
  | _ => none }
def BatchBackWrongFalsely : Prop := batchBackRow.holds Tryz.pinned (OpenSpec.ofChange batchBackWrong)

/-- 'decklelaw10.BatchSums': WHATEVER THE INPUT: true; the input reads as it did. -/
def batchSumsSpec : ChangeSpec := { name := "batchSums", fn := fun _ => fun
  | [d1, d2] => { results := [.lit (.bool true)], args := [d1, d2] }
  | _ => none }
def batchSumsRow : OpenClaim := { program := "ytiopngpkfhgbpaagreatdoor", sum := "3cd802183321ae72aef1639704f3eb00c45b49e3ddfcf7cf87a801bf71ac9e18", func := "deckle/decklelaw10.BatchSums", spec := "batchSums", inPlace := ["internal/bytealg.IndexByteString", "internal/bytealg.IndexString", "internal/bytealg.abigen_runtime_cmpstring", "math/bits.Add64"], unfollowed := true, recurses := true, named := ["unicode/utf8.first", "unicode/utf8.acceptRanges", "deckle/cell.names", "internal/bytealg.MaxLen"], apart := false, laid := [("unicode/utf8.acceptRanges", laid_unicode_utf8_acceptRanges), ("deckle/cell.names", laid_deckle_cell_names), ("unicode/utf8.first", laid_unicode_utf8_first)] }
def BatchSumsSaid : Prop := batchSumsRow.holds Tryz.pinned (OpenSpec.ofChange batchSumsSpec)

/-- ITS FALSE NEIGHBOUR: 'it returns false'. Refute it at one input. -/
def batchSumsWrong : ChangeSpec := { name := "batchSums", fn := fun _ => fun
  | [d1, d2] => { results := [.lit (.bool false)], args := [d1, d2] }
  | _ => none }
def BatchSumsWrongFalsely : Prop := batchSumsRow.holds Tryz.pinned (OpenSpec.ofChange batchSumsWrong)

/- THE SECOND FORM. 'bulk': how many values and letters a reading holds, each counted each time it is reached (what is shared counts as often as it is met; a slice's spare places count too). A statement '..UptoSaid' is the law's where the arguments, and the package variables that the reading takes, are together of bulk at most 1048576: NARROWER than '..Said'. Prove '..Said' where nothing that the law and all that it calls make is longer than what came in: it says more and counts as full. Else prove '..UptoSaid'. A law counts once. -/
mutual
def uptoBulk {H : Type} : DataW H → Nat
  | .lit (.string bytes) => bytes.length + 1
  | .lit _ => 1
  | .nil => 1
  | .ptr d => uptoBulk d + 1
  | .slice elems spare => uptoBulkAll elems + uptoBulkAll spare + 1
  | .agg parts => uptoBulkAll parts + 1
  | .iface _ d => uptoBulk d + 1
  | .map entries => uptoBulkEntries entries + 1
  | .held _ => 1
def uptoBulkAll {H : Type} : List (DataW H) → Nat
  | [] => 0
  | d :: r => uptoBulk d + uptoBulkAll r
def uptoBulkEntries {H : Type} : List (Lit × DataW H) → Nat
  | [] => 0
  | x :: r => uptoBulkEntry x + uptoBulkEntries r
def uptoBulkEntry {H : Type} : Lit × DataW H → Nat
  | (.string bytes, d) => bytes.length + uptoBulk d + 1
  | (_, d) => uptoBulk d + 1
 end
def uptoSmall : (H : Type) → List (DataW H) → Bool := fun _ ds => decide (uptoBulkAll ds ≤ 1048576)
def OpenSpec.upto (s : _root_.Go.ChangeSpec) : _root_.Go.OpenSpec := { _root_.Go.OpenSpec.ofChange s with cond := some uptoSmall }

/-- 'decklelaw10.BatchRow', WHERE WHAT IT READS IS OF BULK AT MOST 1048576: true; the input reads as it did. -/
def batchRowUptoRow : OpenClaim := { program := "ytiopngpkfhgbpaagreatdoor", sum := "3cd802183321ae72aef1639704f3eb00c45b49e3ddfcf7cf87a801bf71ac9e18", func := "deckle/decklelaw10.BatchRow", spec := "batchRow", inPlace := ["internal/bytealg.IndexByteString", "internal/bytealg.IndexString", "internal/bytealg.abigen_runtime_cmpstring", "math/bits.Add64"], unfollowed := true, recurses := true, named := ["unicode/utf8.first", "unicode/utf8.acceptRanges", "deckle/cell.names", "internal/bytealg.MaxLen"], apart := false, laid := [("unicode/utf8.acceptRanges", laid_unicode_utf8_acceptRanges), ("deckle/cell.names", laid_deckle_cell_names), ("unicode/utf8.first", laid_unicode_utf8_first)], narrowed := true }
def BatchRowUptoSaid : Prop := batchRowUptoRow.holds Tryz.pinned (OpenSpec.upto batchRowSpec)

/-- 'decklelaw10.BatchBack', WHERE WHAT IT READS IS OF BULK AT MOST 1048576: true; the input reads as it did. -/
def batchBackUptoRow : OpenClaim := { program := "ytiopngpkfhgbpaagreatdoor", sum := "3cd802183321ae72aef1639704f3eb00c45b49e3ddfcf7cf87a801bf71ac9e18", func := "deckle/decklelaw10.BatchBack", spec := "batchBack", inPlace := ["internal/bytealg.IndexByteString", "internal/bytealg.IndexString", "internal/bytealg.abigen_runtime_cmpstring", "math/bits.Add64"], unfollowed := true, recurses := true, named := ["unicode/utf8.first", "unicode/utf8.acceptRanges", "deckle/cell.names", "internal/bytealg.MaxLen"], apart := false, laid := [("unicode/utf8.acceptRanges", laid_unicode_utf8_acceptRanges), ("deckle/cell.names", laid_deckle_cell_names), ("unicode/utf8.first", laid_unicode_utf8_first)], narrowed := true }
def BatchBackUptoSaid : Prop := batchBackUptoRow.holds Tryz.pinned (OpenSpec.upto batchBackSpec)

/-- 'decklelaw10.BatchSums', WHERE WHAT IT READS IS OF BULK AT MOST 1048576: true; the input reads as it did. -/
def batchSumsUptoRow : OpenClaim := { program := "ytiopngpkfhgbpaagreatdoor", sum := "3cd802183321ae72aef1639704f3eb00c45b49e3ddfcf7cf87a801bf71ac9e18", func := "deckle/decklelaw10.BatchSums", spec := "batchSums", inPlace := ["internal/bytealg.IndexByteString", "internal/bytealg.IndexString", "internal/bytealg.abigen_runtime_cmpstring", "math/bits.Add64"], unfollowed := true, recurses := true, named := ["unicode/utf8.first", "unicode/utf8.acceptRanges", "deckle/cell.names", "internal/bytealg.MaxLen"], apart := false, laid := [("unicode/utf8.acceptRanges", laid_unicode_utf8_acceptRanges), ("deckle/cell.names", laid_deckle_cell_names), ("unicode/utf8.first", laid_unicode_utf8_first)], narrowed := true }
def BatchSumsUptoSaid : Prop := batchSumsUptoRow.holds Tryz.pinned (OpenSpec.upto batchSumsSpec)

end Rows
end Go.Proofs.YtiopngpkfhgbpaaGreatDoor
