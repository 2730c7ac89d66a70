/-
  DERIVED. GIVEN WITH THE SEED: THE CARDS: each row of YtpcbcodmocmilaaGreatDoorRows.lean that lists a variable, with what it lists TIED to the program's text (the seventh form; the later family's looks); each row that meets fmt, with fmt's text TOLD by the authors' own Lean function (tested against real Go, not proved from fmt's source: count such statements apart). THE CARD IS WHAT COUNTS. Prove the row's statement (the work); the ties are given (YtpcbcodmocmilaaGreatDoorTie.lean); close each card by the builder's one call (the guide's Derived/Test/ToyasCard.lean, 'card_holds'). Laid BY PROGRAM, IN A SANDBOX (cutbox-door.mjs). By AI agents, Wed Nov 11 2026. No macro, syntax, notation, axiom, sorry.
-/
import Derived.Test.YtpcbcodmocmilaaGreatDoorRows
import GoSem.ClaimSeven
namespace Go.Proofs.YtpcbcodmocmilaaGreatDoor
namespace Rows

/-- THE TIED CARD OF 'laceworklaw19.CodeMakes'. -/
def codeMakesCard : Claim7 := { stood := { row := codeMakesRow, standIns := [], harness := (true, "88bf4fc1580ca255188a6d59dd92041294027b7e7d2ac7da2288ab2f4839e7e9"), looks := false }, kinds := [], alts := [], laidByText := true, laidKinds := [.data, .pinned], laidTests := true, laidLooks := .later }
def CodeMakesCardSaid : Prop := Claim7.holds Tryz.pinned (.plain (OpenSpec.ofChange codeMakesSpec)) codeMakesCard

/-- THE TIED CARD OF 'laceworklaw19.CodePlain'. -/
def codePlainCard : Claim7 := { stood := { row := codePlainRow, standIns := [], harness := (true, "88bf4fc1580ca255188a6d59dd92041294027b7e7d2ac7da2288ab2f4839e7e9"), looks := false }, kinds := [], alts := [], laidByText := true, laidKinds := [.data, .pinned], laidTests := true, laidLooks := .later }
def CodePlainCardSaid : Prop := Claim7.holds Tryz.pinned (.plain (OpenSpec.ofChange codePlainSpec)) codePlainCard

/-- THE TIED CARD OF 'laceworklaw18.QshowBack'. -/
def qshowBackCard : Claim7 := { stood := { row := qshowBackRow, standIns := [], harness := (true, "88bf4fc1580ca255188a6d59dd92041294027b7e7d2ac7da2288ab2f4839e7e9"), looks := false }, kinds := [], alts := [], laidByText := true, laidKinds := [.data, .data, .data, .data, .pinned], laidTests := true, laidLooks := .later }
def QshowBackCardSaid : Prop := Claim7.holds Tryz.pinned (.plain (OpenSpec.ofChange qshowBackSpec)) qshowBackCard

/-- THE TIED CARD OF 'laceworklaw18.QshowOne'. -/
def qshowOneCard : Claim7 := { stood := { row := qshowOneRow, standIns := [], harness := (true, "88bf4fc1580ca255188a6d59dd92041294027b7e7d2ac7da2288ab2f4839e7e9"), looks := false }, kinds := [], alts := [], laidByText := true, laidKinds := [.data, .data, .data, .data, .pinned], laidTests := true, laidLooks := .later }
def QshowOneCardSaid : Prop := Claim7.holds Tryz.pinned (.plain (OpenSpec.ofChange qshowOneSpec)) qshowOneCard

/-- THE TIED CARD OF 'laceworklaw18.QshowTwo'. -/
def qshowTwoCard : Claim7 := { stood := { row := qshowTwoRow, standIns := [], harness := (true, "88bf4fc1580ca255188a6d59dd92041294027b7e7d2ac7da2288ab2f4839e7e9"), looks := false }, kinds := [], alts := [], laidByText := true, laidKinds := [.data, .data, .data, .data, .pinned], laidTests := true, laidLooks := .later }
def QshowTwoCardSaid : Prop := Claim7.holds Tryz.pinned (.plain (OpenSpec.ofChange qshowTwoSpec)) qshowTwoCard

/-- THE TIED CARD OF 'laceworklaw18.QshowNames'. -/
def qshowNamesCard : Claim7 := { stood := { row := qshowNamesRow, standIns := [], harness := (true, "88bf4fc1580ca255188a6d59dd92041294027b7e7d2ac7da2288ab2f4839e7e9"), looks := false }, kinds := [], alts := [], laidByText := true, laidKinds := [.data, .data, .data, .data, .pinned], laidTests := true, laidLooks := .later }
def QshowNamesCardSaid : Prop := Claim7.holds Tryz.pinned (.plain (OpenSpec.ofChange qshowNamesSpec)) qshowNamesCard

/-- THE TIED CARD OF 'laceworklaw19.CodeShown'. -/
def codeShownCard : Claim7 := { stood := { row := codeShownRow, standIns := [], harness := (true, "88bf4fc1580ca255188a6d59dd92041294027b7e7d2ac7da2288ab2f4839e7e9"), looks := false }, kinds := [], alts := [], laidByText := true, laidKinds := [.data, .data, .data, .data, .pinned], laidTests := true, laidLooks := .later }
def CodeShownCardSaid : Prop := Claim7.holds Tryz.pinned (.plain (OpenSpec.ofChange codeShownSpec)) codeShownCard

/-- THE SECOND FORM's CARD OF 'laceworklaw19.CodeMakes'. -/
def codeMakesUptoCard : Claim7 := { stood := { row := codeMakesUptoRow, standIns := [], harness := (true, "88bf4fc1580ca255188a6d59dd92041294027b7e7d2ac7da2288ab2f4839e7e9"), looks := false }, kinds := [], alts := [], laidByText := true, laidKinds := [.data, .pinned], laidTests := true, laidLooks := .later }
def CodeMakesUptoCardSaid : Prop := Claim7.holds Tryz.pinned (.plain (OpenSpec.upto codeMakesSpec)) codeMakesUptoCard

/-- THE SECOND FORM's CARD OF 'laceworklaw19.CodePlain'. -/
def codePlainUptoCard : Claim7 := { stood := { row := codePlainUptoRow, standIns := [], harness := (true, "88bf4fc1580ca255188a6d59dd92041294027b7e7d2ac7da2288ab2f4839e7e9"), looks := false }, kinds := [], alts := [], laidByText := true, laidKinds := [.data, .pinned], laidTests := true, laidLooks := .later }
def CodePlainUptoCardSaid : Prop := Claim7.holds Tryz.pinned (.plain (OpenSpec.upto codePlainSpec)) codePlainUptoCard

/-- THE SECOND FORM's CARD OF 'laceworklaw18.QshowBack'. -/
def qshowBackUptoCard : Claim7 := { stood := { row := qshowBackUptoRow, standIns := [], harness := (true, "88bf4fc1580ca255188a6d59dd92041294027b7e7d2ac7da2288ab2f4839e7e9"), looks := false }, kinds := [], alts := [], laidByText := true, laidKinds := [.data, .data, .data, .data, .pinned], laidTests := true, laidLooks := .later }
def QshowBackUptoCardSaid : Prop := Claim7.holds Tryz.pinned (.plain (OpenSpec.upto qshowBackSpec)) qshowBackUptoCard

/-- THE SECOND FORM's CARD OF 'laceworklaw18.QshowOne'. -/
def qshowOneUptoCard : Claim7 := { stood := { row := qshowOneUptoRow, standIns := [], harness := (true, "88bf4fc1580ca255188a6d59dd92041294027b7e7d2ac7da2288ab2f4839e7e9"), looks := false }, kinds := [], alts := [], laidByText := true, laidKinds := [.data, .data, .data, .data, .pinned], laidTests := true, laidLooks := .later }
def QshowOneUptoCardSaid : Prop := Claim7.holds Tryz.pinned (.plain (OpenSpec.upto qshowOneSpec)) qshowOneUptoCard

/-- THE SECOND FORM's CARD OF 'laceworklaw18.QshowTwo'. -/
def qshowTwoUptoCard : Claim7 := { stood := { row := qshowTwoUptoRow, standIns := [], harness := (true, "88bf4fc1580ca255188a6d59dd92041294027b7e7d2ac7da2288ab2f4839e7e9"), looks := false }, kinds := [], alts := [], laidByText := true, laidKinds := [.data, .data, .data, .data, .pinned], laidTests := true, laidLooks := .later }
def QshowTwoUptoCardSaid : Prop := Claim7.holds Tryz.pinned (.plain (OpenSpec.upto qshowTwoSpec)) qshowTwoUptoCard

/-- THE SECOND FORM's CARD OF 'laceworklaw18.QshowNames'. -/
def qshowNamesUptoCard : Claim7 := { stood := { row := qshowNamesUptoRow, standIns := [], harness := (true, "88bf4fc1580ca255188a6d59dd92041294027b7e7d2ac7da2288ab2f4839e7e9"), looks := false }, kinds := [], alts := [], laidByText := true, laidKinds := [.data, .data, .data, .data, .pinned], laidTests := true, laidLooks := .later }
def QshowNamesUptoCardSaid : Prop := Claim7.holds Tryz.pinned (.plain (OpenSpec.upto qshowNamesSpec)) qshowNamesUptoCard

/-- THE SECOND FORM's CARD OF 'laceworklaw19.CodeShown'. -/
def codeShownUptoCard : Claim7 := { stood := { row := codeShownUptoRow, standIns := [], harness := (true, "88bf4fc1580ca255188a6d59dd92041294027b7e7d2ac7da2288ab2f4839e7e9"), looks := false }, kinds := [], alts := [], laidByText := true, laidKinds := [.data, .data, .data, .data, .pinned], laidTests := true, laidLooks := .later }
def CodeShownUptoCardSaid : Prop := Claim7.holds Tryz.pinned (.plain (OpenSpec.upto codeShownSpec)) codeShownUptoCard
end Rows
end Go.Proofs.YtpcbcodmocmilaaGreatDoor
