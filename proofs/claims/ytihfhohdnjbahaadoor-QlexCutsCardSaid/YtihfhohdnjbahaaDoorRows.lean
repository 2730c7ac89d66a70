/-
  NARROWER THAN 'FOR EVERY INPUT', by the rows' own cells (each row's printed sentence says how): QlexCuts: laid · QlexBlanks: laid · QlexOrder: laid · QlexTwo: laid.
  DERIVED. THE GIVEN ROWS OF THIS SEAT. 4 by the template 'for every input the law returns true; each argument reads behind the call as it read before'; 0 by the template 'total and deterministic' (their statements: YtihfhohdnjbahaaDoorTotals.lean).
  GIVEN WITH THE SEED: the statements are not yours to turn. If you find one false, say at which input.
  Laid BY PROGRAM, IN A SANDBOX (cutbox-rows.mjs): the forced cells as the released guide's own fill.sh prints them over the translation 16900ddd4760ad39… (all of the seat's roots in one cut). By AI agents, Wed Nov 11 2026. No macro, syntax, notation, axiom, sorry.
-/
import Derived.Test.YtihfhohdnjbahaaDoorChecked
import GoSem.PinnedTables
import GoSem.Claim
import GoSem.ClaimJoined
import GoSem.ClaimMapViews
import Derived.JoinedTies
import Derived.KernelRfl
namespace Go.Proofs.YtihfhohdnjbahaaDoor
/- THE CELL 'sum', in the pinned program and in every row, IS THE sha256 OF THE DUMP (.gsa) THAT YtihfhohdnjbahaaDoorProg.lean LOADS. Nothing in Lean hashes anything: it is a label: what it is worth is what the hold of that sum in a sandbox is worth. -/
noncomputable def Tryd.pinned : Pinned := { name := "ytihfhohdnjbahaadoor", sum := "16900ddd4760ad3962e4709c4284d7f13ab3f9f789663ef0ca6c185fc02effaa", checked := Tryd.checked }
namespace Rows
def none {H : Type} : Left H := { results := [], args := [] }

/- WHAT THE LISTED PACKAGE-LEVEL VARIABLES READ AS WHEN THE CALL BEGINS. Each datum BY PROGRAM (the guide's laid-datum.mjs) off the statement by which the dump's own 'gosem.cut.vars' lays the variable. In a bare row this is a premise. The card (YtihfhohdnjbahaaDoorCards.lean) ties it to the program's text. -/
def laid_unicode_utf8_acceptRanges {H : Type} : DataW H := .agg [.agg [.lit (.int .u8 128), .lit (.int .u8 191)], .agg [.lit (.int .u8 160), .lit (.int .u8 191)], .agg [.lit (.int .u8 128), .lit (.int .u8 159)], .agg [.lit (.int .u8 144), .lit (.int .u8 191)], .agg [.lit (.int .u8 128), .lit (.int .u8 143)], .agg [.lit (.int .u8 0), .lit (.int .u8 0)], .agg [.lit (.int .u8 0), .lit (.int .u8 0)], .agg [.lit (.int .u8 0), .lit (.int .u8 0)], .agg [.lit (.int .u8 0), .lit (.int .u8 0)], .agg [.lit (.int .u8 0), .lit (.int .u8 0)], .agg [.lit (.int .u8 0), .lit (.int .u8 0)], .agg [.lit (.int .u8 0), .lit (.int .u8 0)], .agg [.lit (.int .u8 0), .lit (.int .u8 0)], .agg [.lit (.int .u8 0), .lit (.int .u8 0)], .agg [.lit (.int .u8 0), .lit (.int .u8 0)], .agg [.lit (.int .u8 0), .lit (.int .u8 0)]]
/-- One of Go's own tables, pinned by name: the form's constant. -/
def laid_unicode_utf8_first : DataW Unit := Go.Pinned.utf8First

/-- 'laceworklaw16.QlexCuts': WHATEVER THE INPUT: true; the input reads as it did. -/
def qlexCutsSpec : ChangeSpec := { name := "qlexCuts", fn := fun _ => fun
  | [d] => { results := [.lit (.bool true)], args := [d] }
  | _ => none }
def qlexCutsRow : OpenClaim := { program := "ytihfhohdnjbahaadoor", sum := "16900ddd4760ad3962e4709c4284d7f13ab3f9f789663ef0ca6c185fc02effaa", func := "lacework/laceworklaw16.QlexCuts", spec := "qlexCuts", inPlace := ["internal/bytealg.IndexByteString", "internal/bytealg.IndexString", "internal/abi.NoEscape"], unfollowed := true, recurses := true, named := ["unicode/utf8.first", "unicode/utf8.acceptRanges", "internal/bytealg.MaxLen"], apart := false, laid := [("unicode/utf8.acceptRanges", laid_unicode_utf8_acceptRanges), ("unicode/utf8.first", laid_unicode_utf8_first)] }
def QlexCutsSaid : Prop := qlexCutsRow.holds Tryd.pinned (OpenSpec.ofChange qlexCutsSpec)

/-- ITS FALSE NEIGHBOUR: 'it returns false'. Refute it at one input. -/
def qlexCutsWrong : ChangeSpec := { name := "qlexCuts", fn := fun _ => fun
  | [d] => { results := [.lit (.bool false)], args := [d] }
  | _ => none }
def QlexCutsWrongFalsely : Prop := qlexCutsRow.holds Tryd.pinned (OpenSpec.ofChange qlexCutsWrong)

/-- 'laceworklaw16.QlexBlanks': WHATEVER THE INPUT: true; the input reads as it did. -/
def qlexBlanksSpec : ChangeSpec := { name := "qlexBlanks", fn := fun _ => fun
  | [d1, d2] => { results := [.lit (.bool true)], args := [d1, d2] }
  | _ => none }
def qlexBlanksRow : OpenClaim := { program := "ytihfhohdnjbahaadoor", sum := "16900ddd4760ad3962e4709c4284d7f13ab3f9f789663ef0ca6c185fc02effaa", func := "lacework/laceworklaw16.QlexBlanks", spec := "qlexBlanks", inPlace := ["internal/bytealg.IndexByteString", "internal/bytealg.IndexString", "internal/abi.NoEscape"], unfollowed := true, recurses := true, named := ["unicode/utf8.first", "unicode/utf8.acceptRanges", "internal/bytealg.MaxLen"], apart := false, laid := [("unicode/utf8.acceptRanges", laid_unicode_utf8_acceptRanges), ("unicode/utf8.first", laid_unicode_utf8_first)] }
def QlexBlanksSaid : Prop := qlexBlanksRow.holds Tryd.pinned (OpenSpec.ofChange qlexBlanksSpec)

/-- ITS FALSE NEIGHBOUR: 'it returns false'. Refute it at one input. -/
def qlexBlanksWrong : ChangeSpec := { name := "qlexBlanks", fn := fun _ => fun
  | [d1, d2] => { results := [.lit (.bool false)], args := [d1, d2] }
  | _ => none }
def QlexBlanksWrongFalsely : Prop := qlexBlanksRow.holds Tryd.pinned (OpenSpec.ofChange qlexBlanksWrong)

/-- 'laceworklaw16.QlexOrder': WHATEVER THE INPUT: true; the input reads as it did. -/
def qlexOrderSpec : ChangeSpec := { name := "qlexOrder", fn := fun _ => fun
  | [d] => { results := [.lit (.bool true)], args := [d] }
  | _ => none }
def qlexOrderRow : OpenClaim := { program := "ytihfhohdnjbahaadoor", sum := "16900ddd4760ad3962e4709c4284d7f13ab3f9f789663ef0ca6c185fc02effaa", func := "lacework/laceworklaw16.QlexOrder", spec := "qlexOrder", inPlace := ["internal/bytealg.IndexByteString", "internal/bytealg.IndexString", "internal/abi.NoEscape"], unfollowed := true, recurses := true, named := ["unicode/utf8.first", "unicode/utf8.acceptRanges", "internal/bytealg.MaxLen"], apart := false, laid := [("unicode/utf8.acceptRanges", laid_unicode_utf8_acceptRanges), ("unicode/utf8.first", laid_unicode_utf8_first)] }
def QlexOrderSaid : Prop := qlexOrderRow.holds Tryd.pinned (OpenSpec.ofChange qlexOrderSpec)

/-- ITS FALSE NEIGHBOUR: 'it returns false'. Refute it at one input. -/
def qlexOrderWrong : ChangeSpec := { name := "qlexOrder", fn := fun _ => fun
  | [d] => { results := [.lit (.bool false)], args := [d] }
  | _ => none }
def QlexOrderWrongFalsely : Prop := qlexOrderRow.holds Tryd.pinned (OpenSpec.ofChange qlexOrderWrong)

/-- 'laceworklaw16.QlexTwo': WHATEVER THE INPUT: true; the input reads as it did. -/
def qlexTwoSpec : ChangeSpec := { name := "qlexTwo", fn := fun _ => fun
  | [d1, d2] => { results := [.lit (.bool true)], args := [d1, d2] }
  | _ => none }
def qlexTwoRow : OpenClaim := { program := "ytihfhohdnjbahaadoor", sum := "16900ddd4760ad3962e4709c4284d7f13ab3f9f789663ef0ca6c185fc02effaa", func := "lacework/laceworklaw16.QlexTwo", spec := "qlexTwo", inPlace := ["internal/bytealg.IndexByteString", "internal/bytealg.IndexString", "internal/abi.NoEscape"], unfollowed := true, recurses := true, named := ["unicode/utf8.first", "unicode/utf8.acceptRanges", "internal/bytealg.MaxLen"], apart := false, laid := [("unicode/utf8.acceptRanges", laid_unicode_utf8_acceptRanges), ("unicode/utf8.first", laid_unicode_utf8_first)] }
def QlexTwoSaid : Prop := qlexTwoRow.holds Tryd.pinned (OpenSpec.ofChange qlexTwoSpec)

/-- ITS FALSE NEIGHBOUR: 'it returns false'. Refute it at one input. -/
def qlexTwoWrong : ChangeSpec := { name := "qlexTwo", fn := fun _ => fun
  | [d1, d2] => { results := [.lit (.bool false)], args := [d1, d2] }
  | _ => none }
def QlexTwoWrongFalsely : Prop := qlexTwoRow.holds Tryd.pinned (OpenSpec.ofChange qlexTwoWrong)

/- THE SECOND FORM. 'bulk': how many values and letters a reading holds, each counted each time it is reached (what is shared counts as often as it is met; a slice's spare places count too). A statement '..UptoSaid' is the law's where the arguments, and the package variables that the reading takes, are together of bulk at most 1048576: NARROWER than '..Said'. Prove '..Said' where nothing that the law and all that it calls make is longer than what came in: it says more and counts as full. Else prove '..UptoSaid'. A law counts once. -/
mutual
def uptoBulk {H : Type} : DataW H → Nat
  | .lit (.string bytes) => bytes.length + 1
  | .lit _ => 1
  | .nil => 1
  | .ptr d => uptoBulk d + 1
  | .slice elems spare => uptoBulkAll elems + uptoBulkAll spare + 1
  | .agg parts => uptoBulkAll parts + 1
  | .iface _ d => uptoBulk d + 1
  | .map entries => uptoBulkEntries entries + 1
  | .held _ => 1
def uptoBulkAll {H : Type} : List (DataW H) → Nat
  | [] => 0
  | d :: r => uptoBulk d + uptoBulkAll r
def uptoBulkEntries {H : Type} : List (Lit × DataW H) → Nat
  | [] => 0
  | x :: r => uptoBulkEntry x + uptoBulkEntries r
def uptoBulkEntry {H : Type} : Lit × DataW H → Nat
  | (.string bytes, d) => bytes.length + uptoBulk d + 1
  | (_, d) => uptoBulk d + 1
 end
def uptoSmall : (H : Type) → List (DataW H) → Bool := fun _ ds => decide (uptoBulkAll ds ≤ 1048576)
def OpenSpec.upto (s : _root_.Go.ChangeSpec) : _root_.Go.OpenSpec := { _root_.Go.OpenSpec.ofChange s with cond := some uptoSmall }

/-- 'laceworklaw16.QlexCuts', WHERE WHAT IT READS IS OF BULK AT MOST 1048576: true; the input reads as it did. -/
def qlexCutsUptoRow : OpenClaim := { program := "ytihfhohdnjbahaadoor", sum := "16900ddd4760ad3962e4709c4284d7f13ab3f9f789663ef0ca6c185fc02effaa", func := "lacework/laceworklaw16.QlexCuts", spec := "qlexCuts", inPlace := ["internal/bytealg.IndexByteString", "internal/bytealg.IndexString", "internal/abi.NoEscape"], unfollowed := true, recurses := true, named := ["unicode/utf8.first", "unicode/utf8.acceptRanges", "internal/bytealg.MaxLen"], apart := false, laid := [("unicode/utf8.acceptRanges", laid_unicode_utf8_acceptRanges), ("unicode/utf8.first", laid_unicode_utf8_first)], narrowed := true }
def QlexCutsUptoSaid : Prop := qlexCutsUptoRow.holds Tryd.pinned (OpenSpec.upto qlexCutsSpec)

/-- 'laceworklaw16.QlexBlanks', WHERE WHAT IT READS IS OF BULK AT MOST 1048576: true; the input reads as it did. -/
def qlexBlanksUptoRow : OpenClaim := { program := "ytihfhohdnjbahaadoor", sum := "16900ddd4760ad3962e4709c4284d7f13ab3f9f789663ef0ca6c185fc02effaa", func := "lacework/laceworklaw16.QlexBlanks", spec := "qlexBlanks", inPlace := ["internal/bytealg.IndexByteString", "internal/bytealg.IndexString", "internal/abi.NoEscape"], unfollowed := true, recurses := true, named := ["unicode/utf8.first", "unicode/utf8.acceptRanges", "internal/bytealg.MaxLen"], apart := false, laid := [("unicode/utf8.acceptRanges", laid_unicode_utf8_acceptRanges), ("unicode/utf8.first", laid_unicode_utf8_first)], narrowed := true }
def QlexBlanksUptoSaid : Prop := qlexBlanksUptoRow.holds Tryd.pinned (OpenSpec.upto qlexBlanksSpec)

/-- 'laceworklaw16.QlexOrder', WHERE WHAT IT READS IS OF BULK AT MOST 1048576: true; the input reads as it did. -/
def qlexOrderUptoRow : OpenClaim := { program := "ytihfhohdnjbahaadoor", sum := "16900ddd4760ad3962e4709c4284d7f13ab3f9f789663ef0ca6c185fc02effaa", func := "lacework/laceworklaw16.QlexOrder", spec := "qlexOrder", inPlace := ["internal/bytealg.IndexByteString", "internal/bytealg.IndexString", "internal/abi.NoEscape"], unfollowed := true, recurses := true, named := ["unicode/utf8.first", "unicode/utf8.acceptRanges", "internal/bytealg.MaxLen"], apart := false, laid := [("unicode/utf8.acceptRanges", laid_unicode_utf8_acceptRanges), ("unicode/utf8.first", laid_unicode_utf8_first)], narrowed := true }
def QlexOrderUptoSaid : Prop := qlexOrderUptoRow.holds Tryd.pinned (OpenSpec.upto qlexOrderSpec)

/-- 'laceworklaw16.QlexTwo', WHERE WHAT IT READS IS OF BULK AT MOST 1048576: true; the input reads as it did. -/
def qlexTwoUptoRow : OpenClaim := { program := "ytihfhohdnjbahaadoor", sum := "16900ddd4760ad3962e4709c4284d7f13ab3f9f789663ef0ca6c185fc02effaa", func := "lacework/laceworklaw16.QlexTwo", spec := "qlexTwo", inPlace := ["internal/bytealg.IndexByteString", "internal/bytealg.IndexString", "internal/abi.NoEscape"], unfollowed := true, recurses := true, named := ["unicode/utf8.first", "unicode/utf8.acceptRanges", "internal/bytealg.MaxLen"], apart := false, laid := [("unicode/utf8.acceptRanges", laid_unicode_utf8_acceptRanges), ("unicode/utf8.first", laid_unicode_utf8_first)], narrowed := true }
def QlexTwoUptoSaid : Prop := qlexTwoUptoRow.holds Tryd.pinned (OpenSpec.upto qlexTwoSpec)

end Rows
end Go.Proofs.YtihfhohdnjbahaaDoor
