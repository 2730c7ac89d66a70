/-
  NARROWER THAN 'FOR EVERY INPUT', by the rows' own cells (each row's printed sentence says how): QtreeBlanks: laid · QtreeDeep: laid · QtreeMany: laid · QtreeCut: laid.
  DERIVED. THE GIVEN ROWS OF THIS SEAT. 4 by the template 'for every input the law returns true; each argument reads behind the call as it read before'; 0 by the template 'total and deterministic' (their statements: YtmopeandckmgcaaDoorTotals.lean).
  GIVEN WITH THE SEED: the statements are not yours to turn. If you find one false, say at which input.
  Laid BY PROGRAM, IN A SANDBOX (cutbox-rows.mjs): the forced cells as the released guide's own fill.sh prints them over the translation 04fe1a1304f6ea8a… (all of the seat's roots in one cut). By AI agents, Wed Nov 11 2026. No macro, syntax, notation, axiom, sorry.
-/
import Derived.Test.YtmopeandckmgcaaDoorChecked
import GoSem.PinnedTables
import GoSem.Claim
import GoSem.ClaimJoined
import GoSem.ClaimMapViews
import Derived.JoinedTies
import Derived.KernelRfl
namespace Go.Proofs.YtmopeandckmgcaaDoor
/- THE CELL 'sum', in the pinned program and in every row, IS THE sha256 OF THE DUMP (.gsa) THAT YtmopeandckmgcaaDoorProg.lean LOADS. Nothing in Lean hashes anything: it is a label: what it is worth is what the hold of that sum in a sandbox is worth. -/
noncomputable def Tryd.pinned : Pinned := { name := "ytmopeandckmgcaadoor", sum := "04fe1a1304f6ea8a3e4d696d99d112f2679c16b405a074044e4e52becdb9a62c", checked := Tryd.checked }
namespace Rows
def none {H : Type} : Left H := { results := [], args := [] }

/- WHAT THE LISTED PACKAGE-LEVEL VARIABLES READ AS WHEN THE CALL BEGINS. Each datum BY PROGRAM (the guide's laid-datum.mjs) off the statement by which the dump's own 'gosem.cut.vars' lays the variable. In a bare row this is a premise. The card (YtmopeandckmgcaaDoorCards.lean) ties it to the program's text. -/
def laid_unicode_utf8_acceptRanges {H : Type} : DataW H := .agg [.agg [.lit (.int .u8 128), .lit (.int .u8 191)], .agg [.lit (.int .u8 160), .lit (.int .u8 191)], .agg [.lit (.int .u8 128), .lit (.int .u8 159)], .agg [.lit (.int .u8 144), .lit (.int .u8 191)], .agg [.lit (.int .u8 128), .lit (.int .u8 143)], .agg [.lit (.int .u8 0), .lit (.int .u8 0)], .agg [.lit (.int .u8 0), .lit (.int .u8 0)], .agg [.lit (.int .u8 0), .lit (.int .u8 0)], .agg [.lit (.int .u8 0), .lit (.int .u8 0)], .agg [.lit (.int .u8 0), .lit (.int .u8 0)], .agg [.lit (.int .u8 0), .lit (.int .u8 0)], .agg [.lit (.int .u8 0), .lit (.int .u8 0)], .agg [.lit (.int .u8 0), .lit (.int .u8 0)], .agg [.lit (.int .u8 0), .lit (.int .u8 0)], .agg [.lit (.int .u8 0), .lit (.int .u8 0)], .agg [.lit (.int .u8 0), .lit (.int .u8 0)]]
/-- One of Go's own tables, pinned by name: the form's constant. -/
def laid_unicode_utf8_first : DataW Unit := Go.Pinned.utf8First

/-- 'laceworklaw17.QtreeBlanks': WHATEVER THE INPUT: true; the input reads as it did. -/
def qtreeBlanksSpec : ChangeSpec := { name := "qtreeBlanks", fn := fun _ => fun
  | [d] => { results := [.lit (.bool true)], args := [d] }
  | _ => none }
def qtreeBlanksRow : OpenClaim := { program := "ytmopeandckmgcaadoor", sum := "04fe1a1304f6ea8a3e4d696d99d112f2679c16b405a074044e4e52becdb9a62c", func := "lacework/laceworklaw17.QtreeBlanks", spec := "qtreeBlanks", inPlace := ["internal/bytealg.IndexByteString", "internal/bytealg.IndexString", "internal/abi.NoEscape"], unfollowed := true, recurses := true, named := ["unicode/utf8.first", "unicode/utf8.acceptRanges", "internal/bytealg.MaxLen"], apart := false, laid := [("unicode/utf8.acceptRanges", laid_unicode_utf8_acceptRanges), ("unicode/utf8.first", laid_unicode_utf8_first)] }
def QtreeBlanksSaid : Prop := qtreeBlanksRow.holds Tryd.pinned (OpenSpec.ofChange qtreeBlanksSpec)

/-- ITS FALSE NEIGHBOUR: 'it returns false'. Refute it at one input. -/
def qtreeBlanksWrong : ChangeSpec := { name := "qtreeBlanks", fn := fun _ => fun
  | [d] => { results := [.lit (.bool false)], args := [d] }
  | _ => none }
def QtreeBlanksWrongFalsely : Prop := qtreeBlanksRow.holds Tryd.pinned (OpenSpec.ofChange qtreeBlanksWrong)

/-- 'laceworklaw17.QtreeDeep': WHATEVER THE INPUT: true; the input reads as it did. -/
def qtreeDeepSpec : ChangeSpec := { name := "qtreeDeep", fn := fun _ => fun
  | [d1, d2] => { results := [.lit (.bool true)], args := [d1, d2] }
  | _ => none }
def qtreeDeepRow : OpenClaim := { program := "ytmopeandckmgcaadoor", sum := "04fe1a1304f6ea8a3e4d696d99d112f2679c16b405a074044e4e52becdb9a62c", func := "lacework/laceworklaw17.QtreeDeep", spec := "qtreeDeep", inPlace := ["internal/bytealg.IndexByteString", "internal/bytealg.IndexString", "internal/abi.NoEscape"], unfollowed := true, recurses := true, named := ["unicode/utf8.first", "unicode/utf8.acceptRanges", "internal/bytealg.MaxLen"], apart := false, laid := [("unicode/utf8.acceptRanges", laid_unicode_utf8_acceptRanges), ("unicode/utf8.first", laid_unicode_utf8_first)] }
def QtreeDeepSaid : Prop := qtreeDeepRow.holds Tryd.pinned (OpenSpec.ofChange qtreeDeepSpec)

/-- ITS FALSE NEIGHBOUR: 'it returns false'. Refute it at one input. -/
def qtreeDeepWrong : ChangeSpec := { name := "qtreeDeep", fn := fun _ => fun
  | [d1, d2] => { results := [.lit (.bool false)], args := [d1, d2] }
  | _ => none }
def QtreeDeepWrongFalsely : Prop := qtreeDeepRow.holds Tryd.pinned (OpenSpec.ofChange qtreeDeepWrong)

/-- 'laceworklaw17.QtreeMany': WHATEVER THE INPUT: true; the input reads as it did. -/
def qtreeManySpec : ChangeSpec := { name := "qtreeMany", fn := fun _ => fun
  | [d1, d2] => { results := [.lit (.bool true)], args := [d1, d2] }
  | _ => none }
def qtreeManyRow : OpenClaim := { program := "ytmopeandckmgcaadoor", sum := "04fe1a1304f6ea8a3e4d696d99d112f2679c16b405a074044e4e52becdb9a62c", func := "lacework/laceworklaw17.QtreeMany", spec := "qtreeMany", inPlace := ["internal/bytealg.IndexByteString", "internal/bytealg.IndexString", "internal/abi.NoEscape"], unfollowed := true, recurses := true, named := ["unicode/utf8.first", "unicode/utf8.acceptRanges", "internal/bytealg.MaxLen"], apart := false, laid := [("unicode/utf8.acceptRanges", laid_unicode_utf8_acceptRanges), ("unicode/utf8.first", laid_unicode_utf8_first)] }
def QtreeManySaid : Prop := qtreeManyRow.holds Tryd.pinned (OpenSpec.ofChange qtreeManySpec)

/-- ITS FALSE NEIGHBOUR: 'it returns false'. Refute it at one input. -/
def qtreeManyWrong : ChangeSpec := { name := "qtreeMany", fn := fun _ => fun
  | [d1, d2] => { results := [.lit (.bool false)], args := [d1, d2] }
  | _ => none }
def QtreeManyWrongFalsely : Prop := qtreeManyRow.holds Tryd.pinned (OpenSpec.ofChange qtreeManyWrong)

/-- 'laceworklaw17.QtreeCut': WHATEVER THE INPUT: true; the input reads as it did. -/
def qtreeCutSpec : ChangeSpec := { name := "qtreeCut", fn := fun _ => fun
  | [d] => { results := [.lit (.bool true)], args := [d] }
  | _ => none }
def qtreeCutRow : OpenClaim := { program := "ytmopeandckmgcaadoor", sum := "04fe1a1304f6ea8a3e4d696d99d112f2679c16b405a074044e4e52becdb9a62c", func := "lacework/laceworklaw17.QtreeCut", spec := "qtreeCut", inPlace := ["internal/bytealg.IndexByteString", "internal/bytealg.IndexString", "internal/abi.NoEscape"], unfollowed := true, recurses := true, named := ["unicode/utf8.first", "unicode/utf8.acceptRanges", "internal/bytealg.MaxLen"], apart := false, laid := [("unicode/utf8.acceptRanges", laid_unicode_utf8_acceptRanges), ("unicode/utf8.first", laid_unicode_utf8_first)] }
def QtreeCutSaid : Prop := qtreeCutRow.holds Tryd.pinned (OpenSpec.ofChange qtreeCutSpec)

/-- ITS FALSE NEIGHBOUR: 'it returns false'. Refute it at one input. -/
def qtreeCutWrong : ChangeSpec := { name := "qtreeCut", fn := fun _ => fun
  | [d] => { results := [.lit (.bool false)], args := [d] }
  | _ => none }
def QtreeCutWrongFalsely : Prop := qtreeCutRow.holds Tryd.pinned (OpenSpec.ofChange qtreeCutWrong)

/- THE SECOND FORM. 'bulk': how many values and letters a reading holds, each counted each time it is reached (what is shared counts as often as it is met; a slice's spare places count too). A statement '..UptoSaid' is the law's where the arguments, and the package variables that the reading takes, are together of bulk at most 1048576: NARROWER than '..Said'. Prove '..Said' where nothing that the law and all that it calls make is longer than what came in: it says more and counts as full. Else prove '..UptoSaid'. A law counts once. -/
mutual
def uptoBulk {H : Type} : DataW H → Nat
  | .lit (.string bytes) => bytes.length + 1
  | .lit _ => 1
  | .nil => 1
  | .ptr d => uptoBulk d + 1
  | .slice elems spare => uptoBulkAll elems + uptoBulkAll spare + 1
  | .agg parts => uptoBulkAll parts + 1
  | .iface _ d => uptoBulk d + 1
  | .map entries => uptoBulkEntries entries + 1
  | .held _ => 1
def uptoBulkAll {H : Type} : List (DataW H) → Nat
  | [] => 0
  | d :: r => uptoBulk d + uptoBulkAll r
def uptoBulkEntries {H : Type} : List (Lit × DataW H) → Nat
  | [] => 0
  | x :: r => uptoBulkEntry x + uptoBulkEntries r
def uptoBulkEntry {H : Type} : Lit × DataW H → Nat
  | (.string bytes, d) => bytes.length + uptoBulk d + 1
  | (_, d) => uptoBulk d + 1
 end
def uptoSmall : (H : Type) → List (DataW H) → Bool := fun _ ds => decide (uptoBulkAll ds ≤ 1048576)
def OpenSpec.upto (s : _root_.Go.ChangeSpec) : _root_.Go.OpenSpec := { _root_.Go.OpenSpec.ofChange s with cond := some uptoSmall }

/-- 'laceworklaw17.QtreeBlanks', WHERE WHAT IT READS IS OF BULK AT MOST 1048576: true; the input reads as it did. -/
def qtreeBlanksUptoRow : OpenClaim := { program := "ytmopeandckmgcaadoor", sum := "04fe1a1304f6ea8a3e4d696d99d112f2679c16b405a074044e4e52becdb9a62c", func := "lacework/laceworklaw17.QtreeBlanks", spec := "qtreeBlanks", inPlace := ["internal/bytealg.IndexByteString", "internal/bytealg.IndexString", "internal/abi.NoEscape"], unfollowed := true, recurses := true, named := ["unicode/utf8.first", "unicode/utf8.acceptRanges", "internal/bytealg.MaxLen"], apart := false, laid := [("unicode/utf8.acceptRanges", laid_unicode_utf8_acceptRanges), ("unicode/utf8.first", laid_unicode_utf8_first)], narrowed := true }
def QtreeBlanksUptoSaid : Prop := qtreeBlanksUptoRow.holds Tryd.pinned (OpenSpec.upto qtreeBlanksSpec)

/-- 'laceworklaw17.QtreeDeep', WHERE WHAT IT READS IS OF BULK AT MOST 1048576: true; the input reads as it did. -/
def qtreeDeepUptoRow : OpenClaim := { program := "ytmopeandckmgcaadoor", sum := "04fe1a1304f6ea8a3e4d696d99d112f2679c16b405a074044e4e52becdb9a62c", func := "lacework/laceworklaw17.QtreeDeep", spec := "qtreeDeep", inPlace := ["internal/bytealg.IndexByteString", "internal/bytealg.IndexString", "internal/abi.NoEscape"], unfollowed := true, recurses := true, named := ["unicode/utf8.first", "unicode/utf8.acceptRanges", "internal/bytealg.MaxLen"], apart := false, laid := [("unicode/utf8.acceptRanges", laid_unicode_utf8_acceptRanges), ("unicode/utf8.first", laid_unicode_utf8_first)], narrowed := true }
def QtreeDeepUptoSaid : Prop := qtreeDeepUptoRow.holds Tryd.pinned (OpenSpec.upto qtreeDeepSpec)

/-- 'laceworklaw17.QtreeMany', WHERE WHAT IT READS IS OF BULK AT MOST 1048576: true; the input reads as it did. -/
def qtreeManyUptoRow : OpenClaim := { program := "ytmopeandckmgcaadoor", sum := "04fe1a1304f6ea8a3e4d696d99d112f2679c16b405a074044e4e52becdb9a62c", func := "lacework/laceworklaw17.QtreeMany", spec := "qtreeMany", inPlace := ["internal/bytealg.IndexByteString", "internal/bytealg.IndexString", "internal/abi.NoEscape"], unfollowed := true, recurses := true, named := ["unicode/utf8.first", "unicode/utf8.acceptRanges", "internal/bytealg.MaxLen"], apart := false, laid := [("unicode/utf8.acceptRanges", laid_unicode_utf8_acceptRanges), ("unicode/utf8.first", laid_unicode_utf8_first)], narrowed := true }
def QtreeManyUptoSaid : Prop := qtreeManyUptoRow.holds Tryd.pinned (OpenSpec.upto qtreeManySpec)

/-- 'laceworklaw17.QtreeCut', WHERE WHAT IT READS IS OF BULK AT MOST 1048576: true; the input reads as it did. -/
def qtreeCutUptoRow : OpenClaim := { program := "ytmopeandckmgcaadoor", sum := "04fe1a1304f6ea8a3e4d696d99d112f2679c16b405a074044e4e52becdb9a62c", func := "lacework/laceworklaw17.QtreeCut", spec := "qtreeCut", inPlace := ["internal/bytealg.IndexByteString", "internal/bytealg.IndexString", "internal/abi.NoEscape"], unfollowed := true, recurses := true, named := ["unicode/utf8.first", "unicode/utf8.acceptRanges", "internal/bytealg.MaxLen"], apart := false, laid := [("unicode/utf8.acceptRanges", laid_unicode_utf8_acceptRanges), ("unicode/utf8.first", laid_unicode_utf8_first)], narrowed := true }
def QtreeCutUptoSaid : Prop := qtreeCutUptoRow.holds Tryd.pinned (OpenSpec.upto qtreeCutSpec)

end Rows
end Go.Proofs.YtmopeandckmgcaaDoor
