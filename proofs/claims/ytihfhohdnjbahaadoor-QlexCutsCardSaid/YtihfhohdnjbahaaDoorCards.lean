/-
  DERIVED. GIVEN WITH THE SEED: THE CARDS: each row of YtihfhohdnjbahaaDoorRows.lean that lists a variable, with what it lists TIED to the program's text (the seventh form; the later family's looks); each row that meets fmt, with fmt's text TOLD by the authors' own Lean function (tested against real Go, not proved from fmt's source: count such statements apart). THE CARD IS WHAT COUNTS. Prove the row's statement (the work); the ties are given (YtihfhohdnjbahaaDoorTie.lean); close each card by the builder's one call (the guide's Derived/Test/ToyasCard.lean, 'card_holds'). Laid BY PROGRAM, IN A SANDBOX (cutbox-door.mjs). By AI agents, Wed Nov 11 2026. No macro, syntax, notation, axiom, sorry.
-/
import Derived.Test.YtihfhohdnjbahaaDoorRows
import GoSem.ClaimSeven
namespace Go.Proofs.YtihfhohdnjbahaaDoor
namespace Rows

/-- THE TIED CARD OF 'laceworklaw16.QlexCuts'. -/
def qlexCutsCard : Claim7 := { stood := { row := qlexCutsRow, standIns := [], harness := (true, "312c14e6e0a5bdff539217fbdf7c0a04be40f0cdf44230bd7e2ea12c36869fdc"), looks := false }, kinds := [], alts := [], laidByText := true, laidKinds := [.data, .pinned], laidTests := true, laidLooks := .later }
def QlexCutsCardSaid : Prop := Claim7.holds Tryd.pinned (.plain (OpenSpec.ofChange qlexCutsSpec)) qlexCutsCard

/-- THE TIED CARD OF 'laceworklaw16.QlexBlanks'. -/
def qlexBlanksCard : Claim7 := { stood := { row := qlexBlanksRow, standIns := [], harness := (true, "312c14e6e0a5bdff539217fbdf7c0a04be40f0cdf44230bd7e2ea12c36869fdc"), looks := false }, kinds := [], alts := [], laidByText := true, laidKinds := [.data, .pinned], laidTests := true, laidLooks := .later }
def QlexBlanksCardSaid : Prop := Claim7.holds Tryd.pinned (.plain (OpenSpec.ofChange qlexBlanksSpec)) qlexBlanksCard

/-- THE TIED CARD OF 'laceworklaw16.QlexOrder'. -/
def qlexOrderCard : Claim7 := { stood := { row := qlexOrderRow, standIns := [], harness := (true, "312c14e6e0a5bdff539217fbdf7c0a04be40f0cdf44230bd7e2ea12c36869fdc"), looks := false }, kinds := [], alts := [], laidByText := true, laidKinds := [.data, .pinned], laidTests := true, laidLooks := .later }
def QlexOrderCardSaid : Prop := Claim7.holds Tryd.pinned (.plain (OpenSpec.ofChange qlexOrderSpec)) qlexOrderCard

/-- THE TIED CARD OF 'laceworklaw16.QlexTwo'. -/
def qlexTwoCard : Claim7 := { stood := { row := qlexTwoRow, standIns := [], harness := (true, "312c14e6e0a5bdff539217fbdf7c0a04be40f0cdf44230bd7e2ea12c36869fdc"), looks := false }, kinds := [], alts := [], laidByText := true, laidKinds := [.data, .pinned], laidTests := true, laidLooks := .later }
def QlexTwoCardSaid : Prop := Claim7.holds Tryd.pinned (.plain (OpenSpec.ofChange qlexTwoSpec)) qlexTwoCard

/-- THE SECOND FORM's CARD OF 'laceworklaw16.QlexCuts'. -/
def qlexCutsUptoCard : Claim7 := { stood := { row := qlexCutsUptoRow, standIns := [], harness := (true, "312c14e6e0a5bdff539217fbdf7c0a04be40f0cdf44230bd7e2ea12c36869fdc"), looks := false }, kinds := [], alts := [], laidByText := true, laidKinds := [.data, .pinned], laidTests := true, laidLooks := .later }
def QlexCutsUptoCardSaid : Prop := Claim7.holds Tryd.pinned (.plain (OpenSpec.upto qlexCutsSpec)) qlexCutsUptoCard

/-- THE SECOND FORM's CARD OF 'laceworklaw16.QlexBlanks'. -/
def qlexBlanksUptoCard : Claim7 := { stood := { row := qlexBlanksUptoRow, standIns := [], harness := (true, "312c14e6e0a5bdff539217fbdf7c0a04be40f0cdf44230bd7e2ea12c36869fdc"), looks := false }, kinds := [], alts := [], laidByText := true, laidKinds := [.data, .pinned], laidTests := true, laidLooks := .later }
def QlexBlanksUptoCardSaid : Prop := Claim7.holds Tryd.pinned (.plain (OpenSpec.upto qlexBlanksSpec)) qlexBlanksUptoCard

/-- THE SECOND FORM's CARD OF 'laceworklaw16.QlexOrder'. -/
def qlexOrderUptoCard : Claim7 := { stood := { row := qlexOrderUptoRow, standIns := [], harness := (true, "312c14e6e0a5bdff539217fbdf7c0a04be40f0cdf44230bd7e2ea12c36869fdc"), looks := false }, kinds := [], alts := [], laidByText := true, laidKinds := [.data, .pinned], laidTests := true, laidLooks := .later }
def QlexOrderUptoCardSaid : Prop := Claim7.holds Tryd.pinned (.plain (OpenSpec.upto qlexOrderSpec)) qlexOrderUptoCard

/-- THE SECOND FORM's CARD OF 'laceworklaw16.QlexTwo'. -/
def qlexTwoUptoCard : Claim7 := { stood := { row := qlexTwoUptoRow, standIns := [], harness := (true, "312c14e6e0a5bdff539217fbdf7c0a04be40f0cdf44230bd7e2ea12c36869fdc"), looks := false }, kinds := [], alts := [], laidByText := true, laidKinds := [.data, .pinned], laidTests := true, laidLooks := .later }
def QlexTwoUptoCardSaid : Prop := Claim7.holds Tryd.pinned (.plain (OpenSpec.upto qlexTwoSpec)) qlexTwoUptoCard
end Rows
end Go.Proofs.YtihfhohdnjbahaaDoor
