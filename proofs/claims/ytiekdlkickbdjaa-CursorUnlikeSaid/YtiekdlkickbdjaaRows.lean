/-
  No cell of these rows narrows 'for every input' (looked for: loops, veiled, ifaces, maps, wideKeys, modest, calm, conditions, laid).
  DERIVED. THE GIVEN ROWS OF THIS SEAT. 8 by the template 'for every input the law returns true; each argument reads behind the call as it read before'; 0 by the template 'total and deterministic' (their statements: YtiekdlkickbdjaaTotals.lean).
  GIVEN WITH THE SEED: the statements are not yours to turn. If you find one false, say at which input.
  Laid BY PROGRAM, IN A SANDBOX (cutbox-rows.mjs): the forced cells as the released guide's own fill.sh prints them over the translation f58a85d14f31c1be… (all of the seat's roots in one cut). By AI agents, Wed Nov 11 2026. No macro, syntax, notation, axiom, sorry.
-/
import Derived.Test.YtiekdlkickbdjaaChecked
import GoSem.Claim
import GoSem.ClaimJoined
import GoSem.ClaimMapViews
import Derived.JoinedTies
import Derived.KernelRfl
namespace Go.Proofs.Ytiekdlkickbdjaa
/- THE CELL 'sum', in the pinned program and in every row, IS THE sha256 OF THE DUMP (.gsa) THAT YtiekdlkickbdjaaProg.lean LOADS. Nothing in Lean hashes anything: it is a label: what it is worth is what the hold of that sum in a sandbox is worth. -/
noncomputable def Try.pinned : Pinned := { name := "ytiekdlkickbdjaa", sum := "f58a85d14f31c1be08a05de02319d8b99bf80fa07fa61865f1eeed7978886fc7", checked := Try.checked }
namespace Rows
def none {H : Type} : Left H := { results := [], args := [] }

/-- 'decklelaw15.DiskKeeps': WHATEVER THE INPUT: true; the input reads as it did. -/
def diskKeepsSpec : ChangeSpec := { name := "diskKeeps", fn := fun _ => fun
  | [d1, d2] => { results := [.lit (.bool true)], args := [d1, d2] }
  | _ => none }
def diskKeepsRow : OpenClaim := { program := "ytiekdlkickbdjaa", sum := "f58a85d14f31c1be08a05de02319d8b99bf80fa07fa61865f1eeed7978886fc7", func := "deckle/decklelaw15.DiskKeeps", spec := "diskKeeps", apart := false }
def DiskKeepsSaid : Prop := diskKeepsRow.holds Try.pinned (OpenSpec.ofChange diskKeepsSpec)

/-- ITS FALSE NEIGHBOUR: 'it returns false'. Refute it at one input. -/
def diskKeepsWrong : ChangeSpec := { name := "diskKeeps", fn := fun _ => fun
  | [d1, d2] => { results := [.lit (.bool false)], args := [d1, d2] }
  | _ => none }
def DiskKeepsWrongFalsely : Prop := diskKeepsRow.holds Try.pinned (OpenSpec.ofChange diskKeepsWrong)

/-- 'decklelaw15.DiskSafe': WHATEVER THE INPUT: true; the input reads as it did. -/
def diskSafeSpec : ChangeSpec := { name := "diskSafe", fn := fun _ => fun
  | [d] => { results := [.lit (.bool true)], args := [d] }
  | _ => none }
def diskSafeRow : OpenClaim := { program := "ytiekdlkickbdjaa", sum := "f58a85d14f31c1be08a05de02319d8b99bf80fa07fa61865f1eeed7978886fc7", func := "deckle/decklelaw15.DiskSafe", spec := "diskSafe", apart := false }
def DiskSafeSaid : Prop := diskSafeRow.holds Try.pinned (OpenSpec.ofChange diskSafeSpec)

/-- ITS FALSE NEIGHBOUR: 'it returns false'. Refute it at one input. -/
def diskSafeWrong : ChangeSpec := { name := "diskSafe", fn := fun _ => fun
  | [d] => { results := [.lit (.bool false)], args := [d] }
  | _ => none }
def DiskSafeWrongFalsely : Prop := diskSafeRow.holds Try.pinned (OpenSpec.ofChange diskSafeWrong)

/-- 'decklelaw15.DiskPieces': WHATEVER THE INPUT: true; the input reads as it did. -/
def diskPiecesSpec : ChangeSpec := { name := "diskPieces", fn := fun _ => fun
  | [d1, d2] => { results := [.lit (.bool true)], args := [d1, d2] }
  | _ => none }
def diskPiecesRow : OpenClaim := { program := "ytiekdlkickbdjaa", sum := "f58a85d14f31c1be08a05de02319d8b99bf80fa07fa61865f1eeed7978886fc7", func := "deckle/decklelaw15.DiskPieces", spec := "diskPieces", apart := false }
def DiskPiecesSaid : Prop := diskPiecesRow.holds Try.pinned (OpenSpec.ofChange diskPiecesSpec)

/-- ITS FALSE NEIGHBOUR: 'it returns false'. Refute it at one input. -/
def diskPiecesWrong : ChangeSpec := { name := "diskPieces", fn := fun _ => fun
  | [d1, d2] => { results := [.lit (.bool false)], args := [d1, d2] }
  | _ => none }
def DiskPiecesWrongFalsely : Prop := diskPiecesRow.holds Try.pinned (OpenSpec.ofChange diskPiecesWrong)

/-- 'decklelaw15.DiskActs': WHATEVER THE INPUT: true; the input reads as it did. -/
def diskActsSpec : ChangeSpec := { name := "diskActs", fn := fun _ => fun
  | [d1, d2] => { results := [.lit (.bool true)], args := [d1, d2] }
  | _ => none }
def diskActsRow : OpenClaim := { program := "ytiekdlkickbdjaa", sum := "f58a85d14f31c1be08a05de02319d8b99bf80fa07fa61865f1eeed7978886fc7", func := "deckle/decklelaw15.DiskActs", spec := "diskActs", apart := false }
def DiskActsSaid : Prop := diskActsRow.holds Try.pinned (OpenSpec.ofChange diskActsSpec)

/-- ITS FALSE NEIGHBOUR: 'it returns false'. Refute it at one input. -/
def diskActsWrong : ChangeSpec := { name := "diskActs", fn := fun _ => fun
  | [d1, d2] => { results := [.lit (.bool false)], args := [d1, d2] }
  | _ => none }
def DiskActsWrongFalsely : Prop := diskActsRow.holds Try.pinned (OpenSpec.ofChange diskActsWrong)

/-- 'decklelaw15.DiskNone': WHATEVER THE INPUT: true; the input reads as it did. -/
def diskNoneSpec : ChangeSpec := { name := "diskNone", fn := fun _ => fun
  | [d1, d2] => { results := [.lit (.bool true)], args := [d1, d2] }
  | _ => none }
def diskNoneRow : OpenClaim := { program := "ytiekdlkickbdjaa", sum := "f58a85d14f31c1be08a05de02319d8b99bf80fa07fa61865f1eeed7978886fc7", func := "deckle/decklelaw15.DiskNone", spec := "diskNone", apart := false }
def DiskNoneSaid : Prop := diskNoneRow.holds Try.pinned (OpenSpec.ofChange diskNoneSpec)

/-- ITS FALSE NEIGHBOUR: 'it returns false'. Refute it at one input. -/
def diskNoneWrong : ChangeSpec := { name := "diskNone", fn := fun _ => fun
  | [d1, d2] => { results := [.lit (.bool false)], args := [d1, d2] }
  | _ => none }
def DiskNoneWrongFalsely : Prop := diskNoneRow.holds Try.pinned (OpenSpec.ofChange diskNoneWrong)

/-- 'decklelaw18.CursorWrites': WHATEVER THE INPUT: true; the input reads as it did. -/
def cursorWritesSpec : ChangeSpec := { name := "cursorWrites", fn := fun _ => fun
  | [d1, d2] => { results := [.lit (.bool true)], args := [d1, d2] }
  | _ => none }
def cursorWritesRow : OpenClaim := { program := "ytiekdlkickbdjaa", sum := "f58a85d14f31c1be08a05de02319d8b99bf80fa07fa61865f1eeed7978886fc7", func := "deckle/decklelaw18.CursorWrites", spec := "cursorWrites", unfollowed := true, recurses := true, apart := false }
def CursorWritesSaid : Prop := cursorWritesRow.holds Try.pinned (OpenSpec.ofChange cursorWritesSpec)

/-- ITS FALSE NEIGHBOUR: 'it returns false'. Refute it at one input. -/
def cursorWritesWrong : ChangeSpec := { name := "cursorWrites", fn := fun _ => fun
  | [d1, d2] => { results := [.lit (.bool false)], args := [d1, d2] }
  | _ => none }
def CursorWritesWrongFalsely : Prop := cursorWritesRow.holds Try.pinned (OpenSpec.ofChange cursorWritesWrong)

/-- 'decklelaw18.CursorBack': WHATEVER THE INPUT: true; the input reads as it did. -/
def cursorBackSpec : ChangeSpec := { name := "cursorBack", fn := fun _ => fun
  | [d1, d2, d3] => { results := [.lit (.bool true)], args := [d1, d2, d3] }
  | _ => none }
def cursorBackRow : OpenClaim := { program := "ytiekdlkickbdjaa", sum := "f58a85d14f31c1be08a05de02319d8b99bf80fa07fa61865f1eeed7978886fc7", func := "deckle/decklelaw18.CursorBack", spec := "cursorBack", unfollowed := true, recurses := true, apart := false }
def CursorBackSaid : Prop := cursorBackRow.holds Try.pinned (OpenSpec.ofChange cursorBackSpec)

/-- ITS FALSE NEIGHBOUR: 'it returns false'. Refute it at one input. -/
def cursorBackWrong : ChangeSpec := { name := "cursorBack", fn := fun _ => fun
  | [d1, d2, d3] => { results := [.lit (.bool false)], args := [d1, d2, d3] }
  | _ => none }
def CursorBackWrongFalsely : Prop := cursorBackRow.holds Try.pinned (OpenSpec.ofChange cursorBackWrong)

/-- 'decklelaw18.CursorUnlike': WHATEVER THE INPUT: true; the input reads as it did. -/
def cursorUnlikeSpec : ChangeSpec := { name := "cursorUnlike", fn := fun _ => fun
  | [d1, d2] => { results := [.lit (.bool true)], args := [d1, d2] }
  | _ => none }
def cursorUnlikeRow : OpenClaim := { program := "ytiekdlkickbdjaa", sum := "f58a85d14f31c1be08a05de02319d8b99bf80fa07fa61865f1eeed7978886fc7", func := "deckle/decklelaw18.CursorUnlike", spec := "cursorUnlike", unfollowed := true, recurses := true, apart := false }
def CursorUnlikeSaid : Prop := cursorUnlikeRow.holds Try.pinned (OpenSpec.ofChange cursorUnlikeSpec)

/-- ITS FALSE NEIGHBOUR: 'it returns false'. Refute it at one input. -/
def cursorUnlikeWrong : ChangeSpec := { name := "cursorUnlike", fn := fun _ => fun
  | [d1, d2] => { results := [.lit (.bool false)], args := [d1, d2] }
  | _ => none }
def CursorUnlikeWrongFalsely : Prop := cursorUnlikeRow.holds Try.pinned (OpenSpec.ofChange cursorUnlikeWrong)

/- THE SECOND FORM. 'bulk': how many values and letters a reading holds, each counted each time it is reached (what is shared counts as often as it is met; a slice's spare places count too). A statement '..UptoSaid' is the law's where the arguments, and the package variables that the reading takes, are together of bulk at most 1048576: NARROWER than '..Said'. Prove '..Said' where nothing that the law and all that it calls make is longer than what came in: it says more and counts as full. Else prove '..UptoSaid'. A law counts once. -/
mutual
def uptoBulk {H : Type} : DataW H → Nat
  | .lit (.string bytes) => bytes.length + 1
  | .lit _ => 1
  | .nil => 1
  | .ptr d => uptoBulk d + 1
  | .slice elems spare => uptoBulkAll elems + uptoBulkAll spare + 1
  | .agg parts => uptoBulkAll parts + 1
  | .iface _ d => uptoBulk d + 1
  | .map entries => uptoBulkEntries entries + 1
  | .held _ => 1
def uptoBulkAll {H : Type} : List (DataW H) → Nat
  | [] => 0
  | d :: r => uptoBulk d + uptoBulkAll r
def uptoBulkEntries {H : Type} : List (Lit × DataW H) → Nat
  | [] => 0
  | x :: r => uptoBulkEntry x + uptoBulkEntries r
def uptoBulkEntry {H : Type} : Lit × DataW H → Nat
  | (.string bytes, d) => bytes.length + uptoBulk d + 1
  | (_, d) => uptoBulk d + 1
 end
def uptoSmall : (H : Type) → List (DataW H) → Bool := fun _ ds => decide (uptoBulkAll ds ≤ 1048576)
def OpenSpec.upto (s : _root_.Go.ChangeSpec) : _root_.Go.OpenSpec := { _root_.Go.OpenSpec.ofChange s with cond := some uptoSmall }

/-- 'decklelaw15.DiskKeeps', WHERE WHAT IT READS IS OF BULK AT MOST 1048576: true; the input reads as it did. -/
def diskKeepsUptoRow : OpenClaim := { program := "ytiekdlkickbdjaa", sum := "f58a85d14f31c1be08a05de02319d8b99bf80fa07fa61865f1eeed7978886fc7", func := "deckle/decklelaw15.DiskKeeps", spec := "diskKeeps", apart := false, narrowed := true }
def DiskKeepsUptoSaid : Prop := diskKeepsUptoRow.holds Try.pinned (OpenSpec.upto diskKeepsSpec)

/-- 'decklelaw15.DiskSafe', WHERE WHAT IT READS IS OF BULK AT MOST 1048576: true; the input reads as it did. -/
def diskSafeUptoRow : OpenClaim := { program := "ytiekdlkickbdjaa", sum := "f58a85d14f31c1be08a05de02319d8b99bf80fa07fa61865f1eeed7978886fc7", func := "deckle/decklelaw15.DiskSafe", spec := "diskSafe", apart := false, narrowed := true }
def DiskSafeUptoSaid : Prop := diskSafeUptoRow.holds Try.pinned (OpenSpec.upto diskSafeSpec)

/-- 'decklelaw15.DiskPieces', WHERE WHAT IT READS IS OF BULK AT MOST 1048576: true; the input reads as it did. -/
def diskPiecesUptoRow : OpenClaim := { program := "ytiekdlkickbdjaa", sum := "f58a85d14f31c1be08a05de02319d8b99bf80fa07fa61865f1eeed7978886fc7", func := "deckle/decklelaw15.DiskPieces", spec := "diskPieces", apart := false, narrowed := true }
def DiskPiecesUptoSaid : Prop := diskPiecesUptoRow.holds Try.pinned (OpenSpec.upto diskPiecesSpec)

/-- 'decklelaw15.DiskActs', WHERE WHAT IT READS IS OF BULK AT MOST 1048576: true; the input reads as it did. -/
def diskActsUptoRow : OpenClaim := { program := "ytiekdlkickbdjaa", sum := "f58a85d14f31c1be08a05de02319d8b99bf80fa07fa61865f1eeed7978886fc7", func := "deckle/decklelaw15.DiskActs", spec := "diskActs", apart := false, narrowed := true }
def DiskActsUptoSaid : Prop := diskActsUptoRow.holds Try.pinned (OpenSpec.upto diskActsSpec)

/-- 'decklelaw15.DiskNone', WHERE WHAT IT READS IS OF BULK AT MOST 1048576: true; the input reads as it did. -/
def diskNoneUptoRow : OpenClaim := { program := "ytiekdlkickbdjaa", sum := "f58a85d14f31c1be08a05de02319d8b99bf80fa07fa61865f1eeed7978886fc7", func := "deckle/decklelaw15.DiskNone", spec := "diskNone", apart := false, narrowed := true }
def DiskNoneUptoSaid : Prop := diskNoneUptoRow.holds Try.pinned (OpenSpec.upto diskNoneSpec)

/-- 'decklelaw18.CursorWrites', WHERE WHAT IT READS IS OF BULK AT MOST 1048576: true; the input reads as it did. -/
def cursorWritesUptoRow : OpenClaim := { program := "ytiekdlkickbdjaa", sum := "f58a85d14f31c1be08a05de02319d8b99bf80fa07fa61865f1eeed7978886fc7", func := "deckle/decklelaw18.CursorWrites", spec := "cursorWrites", unfollowed := true, recurses := true, apart := false, narrowed := true }
def CursorWritesUptoSaid : Prop := cursorWritesUptoRow.holds Try.pinned (OpenSpec.upto cursorWritesSpec)

/-- 'decklelaw18.CursorBack', WHERE WHAT IT READS IS OF BULK AT MOST 1048576: true; the input reads as it did. -/
def cursorBackUptoRow : OpenClaim := { program := "ytiekdlkickbdjaa", sum := "f58a85d14f31c1be08a05de02319d8b99bf80fa07fa61865f1eeed7978886fc7", func := "deckle/decklelaw18.CursorBack", spec := "cursorBack", unfollowed := true, recurses := true, apart := false, narrowed := true }
def CursorBackUptoSaid : Prop := cursorBackUptoRow.holds Try.pinned (OpenSpec.upto cursorBackSpec)

/-- 'decklelaw18.CursorUnlike', WHERE WHAT IT READS IS OF BULK AT MOST 1048576: true; the input reads as it did. -/
def cursorUnlikeUptoRow : OpenClaim := { program := "ytiekdlkickbdjaa", sum := "f58a85d14f31c1be08a05de02319d8b99bf80fa07fa61865f1eeed7978886fc7", func := "deckle/decklelaw18.CursorUnlike", spec := "cursorUnlike", unfollowed := true, recurses := true, apart := false, narrowed := true }
def CursorUnlikeUptoSaid : Prop := cursorUnlikeUptoRow.holds Try.pinned (OpenSpec.upto cursorUnlikeSpec)

end Rows
end Go.Proofs.Ytiekdlkickbdjaa
