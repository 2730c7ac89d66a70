/-
  No cell of these rows narrows 'for every input' (looked for: loops, veiled, ifaces, maps, wideKeys, modest, calm, conditions, laid).
  DERIVED. THE GIVEN ROWS OF THIS SEAT. 4 by the template 'for every input the law returns true; each argument reads behind the call as it read before'; 0 by the template 'total and deterministic' (their statements: YtppeahlnpidheaaTotals.lean).
  GIVEN WITH THE SEED: the statements are not yours to turn. If you find one false, say at which input.
  Laid BY PROGRAM, IN A SANDBOX (cutbox-rows.mjs): the forced cells as the released guide's own fill.sh prints them over the translation 7d8b7df2e930153e… (all of the seat's roots in one cut). By AI agents, Wed Nov 11 2026. No macro, syntax, notation, axiom, sorry.
-/
import Derived.Test.YtppeahlnpidheaaChecked
import GoSem.Claim
import GoSem.ClaimJoined
import GoSem.ClaimMapViews
import Derived.JoinedTies
import Derived.KernelRfl
namespace Go.Proofs.Ytppeahlnpidheaa
/- THE CELL 'sum', in the pinned program and in every row, IS THE sha256 OF THE DUMP (.gsa) THAT YtppeahlnpidheaaProg.lean LOADS. Nothing in Lean hashes anything: it is a label: what it is worth is what the hold of that sum in a sandbox is worth. -/
noncomputable def Try.pinned : Pinned := { name := "ytppeahlnpidheaa", sum := "7d8b7df2e930153ed772dcad851e85013bca58331055b11eaddab4fb717ae1b3", checked := Try.checked }
namespace Rows
def none {H : Type} : Left H := { results := [], args := [] }

/-- 'laceworklaw13.MarksStrings': WHATEVER THE INPUT: true; the input reads as it did. -/
def marksStringsSpec : ChangeSpec := { name := "marksStrings", fn := fun _ => fun
  | [d] => { results := [.lit (.bool true)], args := [d] }
  | _ => none }
def marksStringsRow : OpenClaim := { program := "ytppeahlnpidheaa", sum := "7d8b7df2e930153ed772dcad851e85013bca58331055b11eaddab4fb717ae1b3", func := "lacework/laceworklaw13.MarksStrings", spec := "marksStrings", unfollowed := true, recurses := true, apart := false }
def MarksStringsSaid : Prop := marksStringsRow.holds Try.pinned (OpenSpec.ofChange marksStringsSpec)

/-- ITS FALSE NEIGHBOUR: 'it returns false'. Refute it at one input. -/
def marksStringsWrong : ChangeSpec := { name := "marksStrings", fn := fun _ => fun
  | [d] => { results := [.lit (.bool false)], args := [d] }
  | _ => none }
def MarksStringsWrongFalsely : Prop := marksStringsRow.holds Try.pinned (OpenSpec.ofChange marksStringsWrong)

/-- 'laceworklaw13.MarksPlaces': WHATEVER THE INPUT: true; the input reads as it did. -/
def marksPlacesSpec : ChangeSpec := { name := "marksPlaces", fn := fun _ => fun
  | [d] => { results := [.lit (.bool true)], args := [d] }
  | _ => none }
def marksPlacesRow : OpenClaim := { program := "ytppeahlnpidheaa", sum := "7d8b7df2e930153ed772dcad851e85013bca58331055b11eaddab4fb717ae1b3", func := "lacework/laceworklaw13.MarksPlaces", spec := "marksPlaces", unfollowed := true, recurses := true, apart := false }
def MarksPlacesSaid : Prop := marksPlacesRow.holds Try.pinned (OpenSpec.ofChange marksPlacesSpec)

/-- ITS FALSE NEIGHBOUR: 'it returns false'. Refute it at one input. -/
def marksPlacesWrong : ChangeSpec := { name := "marksPlaces", fn := fun _ => fun
  | [d] => { results := [.lit (.bool false)], args := [d] }
  | _ => none }
def MarksPlacesWrongFalsely : Prop := marksPlacesRow.holds Try.pinned (OpenSpec.ofChange marksPlacesWrong)

/-- 'laceworklaw13.MarksBalanced': WHATEVER THE INPUT: true; the input reads as it did. -/
def marksBalancedSpec : ChangeSpec := { name := "marksBalanced", fn := fun _ => fun
  | [d] => { results := [.lit (.bool true)], args := [d] }
  | _ => none }
def marksBalancedRow : OpenClaim := { program := "ytppeahlnpidheaa", sum := "7d8b7df2e930153ed772dcad851e85013bca58331055b11eaddab4fb717ae1b3", func := "lacework/laceworklaw13.MarksBalanced", spec := "marksBalanced", unfollowed := true, recurses := true, apart := false }
def MarksBalancedSaid : Prop := marksBalancedRow.holds Try.pinned (OpenSpec.ofChange marksBalancedSpec)

/-- ITS FALSE NEIGHBOUR: 'it returns false'. Refute it at one input. -/
def marksBalancedWrong : ChangeSpec := { name := "marksBalanced", fn := fun _ => fun
  | [d] => { results := [.lit (.bool false)], args := [d] }
  | _ => none }
def MarksBalancedWrongFalsely : Prop := marksBalancedRow.holds Try.pinned (OpenSpec.ofChange marksBalancedWrong)

/-- 'laceworklaw13.MarksTwo': WHATEVER THE INPUT: true; the input reads as it did. -/
def marksTwoSpec : ChangeSpec := { name := "marksTwo", fn := fun _ => fun
  | [d1, d2] => { results := [.lit (.bool true)], args := [d1, d2] }
  | _ => none }
def marksTwoRow : OpenClaim := { program := "ytppeahlnpidheaa", sum := "7d8b7df2e930153ed772dcad851e85013bca58331055b11eaddab4fb717ae1b3", func := "lacework/laceworklaw13.MarksTwo", spec := "marksTwo", unfollowed := true, recurses := true, apart := false }
def MarksTwoSaid : Prop := marksTwoRow.holds Try.pinned (OpenSpec.ofChange marksTwoSpec)

/-- ITS FALSE NEIGHBOUR: 'it returns false'. Refute it at one input. -/
def marksTwoWrong : ChangeSpec := { name := "marksTwo", fn := fun _ => fun
  | [d1, d2] => { results := [.lit (.bool false)], args := [d1, d2] }
  | _ => none }
def MarksTwoWrongFalsely : Prop := marksTwoRow.holds Try.pinned (OpenSpec.ofChange marksTwoWrong)

/- THE SECOND FORM. 'bulk': how many values and letters a reading holds, each counted each time it is reached (what is shared counts as often as it is met; a slice's spare places count too). A statement '..UptoSaid' is the law's where the arguments, and the package variables that the reading takes, are together of bulk at most 1048576: NARROWER than '..Said'. Prove '..Said' where nothing that the law and all that it calls make is longer than what came in: it says more and counts as full. Else prove '..UptoSaid'. A law counts once. -/
mutual
def uptoBulk {H : Type} : DataW H → Nat
  | .lit (.string bytes) => bytes.length + 1
  | .lit _ => 1
  | .nil => 1
  | .ptr d => uptoBulk d + 1
  | .slice elems spare => uptoBulkAll elems + uptoBulkAll spare + 1
  | .agg parts => uptoBulkAll parts + 1
  | .iface _ d => uptoBulk d + 1
  | .map entries => uptoBulkEntries entries + 1
  | .held _ => 1
def uptoBulkAll {H : Type} : List (DataW H) → Nat
  | [] => 0
  | d :: r => uptoBulk d + uptoBulkAll r
def uptoBulkEntries {H : Type} : List (Lit × DataW H) → Nat
  | [] => 0
  | x :: r => uptoBulkEntry x + uptoBulkEntries r
def uptoBulkEntry {H : Type} : Lit × DataW H → Nat
  | (.string bytes, d) => bytes.length + uptoBulk d + 1
  | (_, d) => uptoBulk d + 1
 end
def uptoSmall : (H : Type) → List (DataW H) → Bool := fun _ ds => decide (uptoBulkAll ds ≤ 1048576)
def OpenSpec.upto (s : _root_.Go.ChangeSpec) : _root_.Go.OpenSpec := { _root_.Go.OpenSpec.ofChange s with cond := some uptoSmall }

/-- 'laceworklaw13.MarksStrings', WHERE WHAT IT READS IS OF BULK AT MOST 1048576: true; the input reads as it did. -/
def marksStringsUptoRow : OpenClaim := { program := "ytppeahlnpidheaa", sum := "7d8b7df2e930153ed772dcad851e85013bca58331055b11eaddab4fb717ae1b3", func := "lacework/laceworklaw13.MarksStrings", spec := "marksStrings", unfollowed := true, recurses := true, apart := false, narrowed := true }
def MarksStringsUptoSaid : Prop := marksStringsUptoRow.holds Try.pinned (OpenSpec.upto marksStringsSpec)

/-- 'laceworklaw13.MarksPlaces', WHERE WHAT IT READS IS OF BULK AT MOST 1048576: true; the input reads as it did. -/
def marksPlacesUptoRow : OpenClaim := { program := "ytppeahlnpidheaa", sum := "7d8b7df2e930153ed772dcad851e85013bca58331055b11eaddab4fb717ae1b3", func := "lacework/laceworklaw13.MarksPlaces", spec := "marksPlaces", unfollowed := true, recurses := true, apart := false, narrowed := true }
def MarksPlacesUptoSaid : Prop := marksPlacesUptoRow.holds Try.pinned (OpenSpec.upto marksPlacesSpec)

/-- 'laceworklaw13.MarksBalanced', WHERE WHAT IT READS IS OF BULK AT MOST 1048576: true; the input reads as it did. -/
def marksBalancedUptoRow : OpenClaim := { program := "ytppeahlnpidheaa", sum := "7d8b7df2e930153ed772dcad851e85013bca58331055b11eaddab4fb717ae1b3", func := "lacework/laceworklaw13.MarksBalanced", spec := "marksBalanced", unfollowed := true, recurses := true, apart := false, narrowed := true }
def MarksBalancedUptoSaid : Prop := marksBalancedUptoRow.holds Try.pinned (OpenSpec.upto marksBalancedSpec)

/-- 'laceworklaw13.MarksTwo', WHERE WHAT IT READS IS OF BULK AT MOST 1048576: true; the input reads as it did. -/
def marksTwoUptoRow : OpenClaim := { program := "ytppeahlnpidheaa", sum := "7d8b7df2e930153ed772dcad851e85013bca58331055b11eaddab4fb717ae1b3", func := "lacework/laceworklaw13.MarksTwo", spec := "marksTwo", unfollowed := true, recurses := true, apart := false, narrowed := true }
def MarksTwoUptoSaid : Prop := marksTwoUptoRow.holds Try.pinned (OpenSpec.upto marksTwoSpec)

end Rows
end Go.Proofs.Ytppeahlnpidheaa
