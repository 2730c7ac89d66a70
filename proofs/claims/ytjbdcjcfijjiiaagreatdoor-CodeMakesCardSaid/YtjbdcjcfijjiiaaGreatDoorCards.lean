/-
  DERIVED. GIVEN WITH THE SEED: THE CARDS: each row of YtjbdcjcfijjiiaaGreatDoorRows.lean that lists a variable, with what it lists TIED to the program's text (the seventh form; the later family's looks); each row that meets fmt, with fmt's text TOLD by the authors' own Lean function (tested against real Go, not proved from fmt's source: count such statements apart). THE CARD IS WHAT COUNTS. Prove the row's statement (the work); the ties are given (YtjbdcjcfijjiiaaGreatDoorTie.lean); close each card by the builder's one call (the guide's Derived/Test/ToyasCard.lean, 'card_holds'). Laid BY PROGRAM, IN A SANDBOX (cutbox-door.mjs). By AI agents, Wed Nov 11 2026. No macro, syntax, notation, axiom, sorry.
-/
import Derived.Test.YtjbdcjcfijjiiaaGreatDoorRows
import GoSem.ClaimSeven
namespace Go.Proofs.YtjbdcjcfijjiiaaGreatDoor
namespace Rows

/-- THE TIED CARD OF 'laceworklaw19.CodeMakes'. -/
def codeMakesCard : Claim7 := { stood := { row := codeMakesRow, standIns := [], harness := (true, "aaf3a78e5ffc2004d638931f3f81be819de7f7eb30a9761ebb80d4f841e17b3e"), looks := false }, kinds := [], alts := [], laidByText := true, laidKinds := [.data, .pinned], laidTests := true, laidLooks := .later }
def CodeMakesCardSaid : Prop := Claim7.holds Tryz.pinned (.plain (OpenSpec.ofChange codeMakesSpec)) codeMakesCard

/-- THE SECOND FORM's CARD OF 'laceworklaw19.CodeMakes'. -/
def codeMakesUptoCard : Claim7 := { stood := { row := codeMakesUptoRow, standIns := [], harness := (true, "aaf3a78e5ffc2004d638931f3f81be819de7f7eb30a9761ebb80d4f841e17b3e"), looks := false }, kinds := [], alts := [], laidByText := true, laidKinds := [.data, .pinned], laidTests := true, laidLooks := .later }
def CodeMakesUptoCardSaid : Prop := Claim7.holds Tryz.pinned (.plain (OpenSpec.upto codeMakesSpec)) codeMakesUptoCard
end Rows
end Go.Proofs.YtjbdcjcfijjiiaaGreatDoor
