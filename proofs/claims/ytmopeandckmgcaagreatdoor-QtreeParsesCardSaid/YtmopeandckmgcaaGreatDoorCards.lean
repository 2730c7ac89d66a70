/-
  DERIVED. GIVEN WITH THE SEED: THE CARDS: each row of YtmopeandckmgcaaGreatDoorRows.lean that lists a variable, with what it lists TIED to the program's text (the seventh form; the later family's looks); each row that meets fmt, with fmt's text TOLD by the authors' own Lean function (tested against real Go, not proved from fmt's source: count such statements apart). THE CARD IS WHAT COUNTS. Prove the row's statement (the work); the ties are given (YtmopeandckmgcaaGreatDoorTie.lean); close each card by the builder's one call (the guide's Derived/Test/ToyasCard.lean, 'card_holds'). Laid BY PROGRAM, IN A SANDBOX (cutbox-door.mjs). By AI agents, Wed Nov 11 2026. No macro, syntax, notation, axiom, sorry.
-/
import Derived.Test.YtmopeandckmgcaaGreatDoorRows
import GoSem.ClaimSeven
namespace Go.Proofs.YtmopeandckmgcaaGreatDoor
namespace Rows

/-- THE TIED CARD OF 'laceworklaw17.QtreeParses'. -/
def qtreeParsesCard : Claim7 := { stood := { row := qtreeParsesRow, standIns := [], harness := (true, "af1afdc2294d2f3ededabecc755d37d47522967a3e42f34c7fe85974e689f7cc"), looks := false }, kinds := [], alts := [], laidByText := true, laidKinds := [.data, .pinned], laidTests := true, laidLooks := .later }
def QtreeParsesCardSaid : Prop := Claim7.holds Tryz.pinned (.plain (OpenSpec.ofChange qtreeParsesSpec)) qtreeParsesCard

/-- THE SECOND FORM's CARD OF 'laceworklaw17.QtreeParses'. -/
def qtreeParsesUptoCard : Claim7 := { stood := { row := qtreeParsesUptoRow, standIns := [], harness := (true, "af1afdc2294d2f3ededabecc755d37d47522967a3e42f34c7fe85974e689f7cc"), looks := false }, kinds := [], alts := [], laidByText := true, laidKinds := [.data, .pinned], laidTests := true, laidLooks := .later }
def QtreeParsesUptoCardSaid : Prop := Claim7.holds Tryz.pinned (.plain (OpenSpec.upto qtreeParsesSpec)) qtreeParsesUptoCard
end Rows
end Go.Proofs.YtmopeandckmgcaaGreatDoor
