/-
  DERIVED. GIVEN WITH THE SEED: THE CARDS: each row of YtdfamphnilelnaaDoorRows.lean that lists a variable, with what it lists TIED to the program's text (the seventh form; the later family's looks); each row that meets fmt, with fmt's text TOLD by the authors' own Lean function (tested against real Go, not proved from fmt's source: count such statements apart). THE CARD IS WHAT COUNTS. Prove the row's statement (the work); the ties are given (YtdfamphnilelnaaDoorTie.lean); close each card by the builder's one call (the guide's Derived/Test/ToyasCard.lean, 'card_holds'). Laid BY PROGRAM, IN A SANDBOX (cutbox-door.mjs). By AI agents, Wed Nov 11 2026. No macro, syntax, notation, axiom, sorry.
-/
import Derived.Test.YtdfamphnilelnaaDoorRows
import GoSem.ClaimSeven
namespace Go.Proofs.YtdfamphnilelnaaDoor
namespace Rows

/-- THE TIED CARD OF 'laceworklaw10.NumCmps'. -/
def numCmpsCard : Claim7 := { stood := { row := numCmpsRow, standIns := [], harness := (true, "a810038ca1541e2386363cc95bc690f87b72b2ce90b4615112a845ff52da7007"), looks := false }, kinds := [], alts := [], laidByText := true, laidKinds := [.data, .data, .data], laidTests := true, laidLooks := .later }
def NumCmpsCardSaid : Prop := Claim7.holds Tryd.pinned (.plain (OpenSpec.ofChange numCmpsSpec)) numCmpsCard

/-- THE TIED CARD OF 'laceworklaw10.NumWhole'. -/
def numWholeCard : Claim7 := { stood := { row := numWholeRow, standIns := [], harness := (true, "a810038ca1541e2386363cc95bc690f87b72b2ce90b4615112a845ff52da7007"), looks := false }, kinds := [], alts := [], laidByText := true, laidKinds := [.data, .data, .data], laidTests := true, laidLooks := .later }
def NumWholeCardSaid : Prop := Claim7.holds Tryd.pinned (.plain (OpenSpec.ofChange numWholeSpec)) numWholeCard

/-- THE TIED CARD OF 'laceworklaw10.NumMoves'. -/
def numMovesCard : Claim7 := { stood := { row := numMovesRow, standIns := [], harness := (true, "a810038ca1541e2386363cc95bc690f87b72b2ce90b4615112a845ff52da7007"), looks := false }, kinds := [], alts := [], laidByText := true, laidKinds := [.data, .data, .data], laidTests := true, laidLooks := .later }
def NumMovesCardSaid : Prop := Claim7.holds Tryd.pinned (.plain (OpenSpec.ofChange numMovesSpec)) numMovesCard

/-- THE TIED CARD OF 'laceworklaw10.NumFar'. -/
def numFarCard : Claim7 := { stood := { row := numFarRow, standIns := [], harness := (true, "a810038ca1541e2386363cc95bc690f87b72b2ce90b4615112a845ff52da7007"), looks := false }, kinds := [], alts := [], laidByText := true, laidKinds := [.data, .data, .data], laidTests := true, laidLooks := .later }
def NumFarCardSaid : Prop := Claim7.holds Tryd.pinned (.plain (OpenSpec.ofChange numFarSpec)) numFarCard

/-- THE TIED CARD OF 'laceworklaw10.NumOrder'. -/
def numOrderCard : Claim7 := { stood := { row := numOrderRow, standIns := [], harness := (true, "a810038ca1541e2386363cc95bc690f87b72b2ce90b4615112a845ff52da7007"), looks := false }, kinds := [], alts := [], laidByText := true, laidKinds := [.data, .data, .data], laidTests := true, laidLooks := .later }
def NumOrderCardSaid : Prop := Claim7.holds Tryd.pinned (.plain (OpenSpec.ofChange numOrderSpec)) numOrderCard

/-- THE TIED CARD OF 'laceworklaw10.NumMinus'. -/
def numMinusCard : Claim7 := { stood := { row := numMinusRow, standIns := [], harness := (true, "a810038ca1541e2386363cc95bc690f87b72b2ce90b4615112a845ff52da7007"), looks := false }, kinds := [], alts := [], laidByText := true, laidKinds := [.data, .data, .data], laidTests := true, laidLooks := .later }
def NumMinusCardSaid : Prop := Claim7.holds Tryd.pinned (.plain (OpenSpec.ofChange numMinusSpec)) numMinusCard

/-- THE SECOND FORM's CARD OF 'laceworklaw10.NumCmps'. -/
def numCmpsUptoCard : Claim7 := { stood := { row := numCmpsUptoRow, standIns := [], harness := (true, "a810038ca1541e2386363cc95bc690f87b72b2ce90b4615112a845ff52da7007"), looks := false }, kinds := [], alts := [], laidByText := true, laidKinds := [.data, .data, .data], laidTests := true, laidLooks := .later }
def NumCmpsUptoCardSaid : Prop := Claim7.holds Tryd.pinned (.plain (OpenSpec.upto numCmpsSpec)) numCmpsUptoCard

/-- THE SECOND FORM's CARD OF 'laceworklaw10.NumWhole'. -/
def numWholeUptoCard : Claim7 := { stood := { row := numWholeUptoRow, standIns := [], harness := (true, "a810038ca1541e2386363cc95bc690f87b72b2ce90b4615112a845ff52da7007"), looks := false }, kinds := [], alts := [], laidByText := true, laidKinds := [.data, .data, .data], laidTests := true, laidLooks := .later }
def NumWholeUptoCardSaid : Prop := Claim7.holds Tryd.pinned (.plain (OpenSpec.upto numWholeSpec)) numWholeUptoCard

/-- THE SECOND FORM's CARD OF 'laceworklaw10.NumMoves'. -/
def numMovesUptoCard : Claim7 := { stood := { row := numMovesUptoRow, standIns := [], harness := (true, "a810038ca1541e2386363cc95bc690f87b72b2ce90b4615112a845ff52da7007"), looks := false }, kinds := [], alts := [], laidByText := true, laidKinds := [.data, .data, .data], laidTests := true, laidLooks := .later }
def NumMovesUptoCardSaid : Prop := Claim7.holds Tryd.pinned (.plain (OpenSpec.upto numMovesSpec)) numMovesUptoCard

/-- THE SECOND FORM's CARD OF 'laceworklaw10.NumFar'. -/
def numFarUptoCard : Claim7 := { stood := { row := numFarUptoRow, standIns := [], harness := (true, "a810038ca1541e2386363cc95bc690f87b72b2ce90b4615112a845ff52da7007"), looks := false }, kinds := [], alts := [], laidByText := true, laidKinds := [.data, .data, .data], laidTests := true, laidLooks := .later }
def NumFarUptoCardSaid : Prop := Claim7.holds Tryd.pinned (.plain (OpenSpec.upto numFarSpec)) numFarUptoCard

/-- THE SECOND FORM's CARD OF 'laceworklaw10.NumOrder'. -/
def numOrderUptoCard : Claim7 := { stood := { row := numOrderUptoRow, standIns := [], harness := (true, "a810038ca1541e2386363cc95bc690f87b72b2ce90b4615112a845ff52da7007"), looks := false }, kinds := [], alts := [], laidByText := true, laidKinds := [.data, .data, .data], laidTests := true, laidLooks := .later }
def NumOrderUptoCardSaid : Prop := Claim7.holds Tryd.pinned (.plain (OpenSpec.upto numOrderSpec)) numOrderUptoCard

/-- THE SECOND FORM's CARD OF 'laceworklaw10.NumMinus'. -/
def numMinusUptoCard : Claim7 := { stood := { row := numMinusUptoRow, standIns := [], harness := (true, "a810038ca1541e2386363cc95bc690f87b72b2ce90b4615112a845ff52da7007"), looks := false }, kinds := [], alts := [], laidByText := true, laidKinds := [.data, .data, .data], laidTests := true, laidLooks := .later }
def NumMinusUptoCardSaid : Prop := Claim7.holds Tryd.pinned (.plain (OpenSpec.upto numMinusSpec)) numMinusUptoCard
end Rows
end Go.Proofs.YtdfamphnilelnaaDoor
