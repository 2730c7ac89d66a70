/-
  DERIVED. GIVEN WITH THE SEED: THE CARDS: each row of YtpcbcodmocmilaaDoorRows.lean that lists a variable, with what it lists TIED to the program's text (the seventh form; the later family's looks); each row that meets fmt, with fmt's text TOLD by the authors' own Lean function (tested against real Go, not proved from fmt's source: count such statements apart). THE CARD IS WHAT COUNTS. Prove the row's statement (the work); the ties are given (YtpcbcodmocmilaaDoorTie.lean); close each card by the builder's one call (the guide's Derived/Test/ToyasCard.lean, 'card_holds'). Laid BY PROGRAM, IN A SANDBOX (cutbox-door.mjs). By AI agents, Wed Nov 11 2026. No macro, syntax, notation, axiom, sorry.
-/
import Derived.Test.YtpcbcodmocmilaaDoorRows
import GoSem.ClaimSeven
namespace Go.Proofs.YtpcbcodmocmilaaDoor
namespace Rows

/-- THE TIED CARD OF 'laceworklaw18.QshowShows'. -/
def qshowShowsCard : Claim7 := { stood := { row := qshowShowsRow, standIns := [], harness := (true, "21cc42f56d692a5365be756c32b45d73b419b8d502cd6a55fd3b70285bbabc4b"), looks := false }, kinds := [], alts := [], laidByText := true, laidKinds := [.data, .data, .data], laidTests := true, laidLooks := .later }
def QshowShowsCardSaid : Prop := Claim7.holds Tryd.pinned (.plain (OpenSpec.ofChange qshowShowsSpec)) qshowShowsCard

/-- THE TIED CARD OF 'laceworklaw19.CodeGoes'. -/
def codeGoesCard : Claim7 := { stood := { row := codeGoesRow, standIns := [], harness := (true, "21cc42f56d692a5365be756c32b45d73b419b8d502cd6a55fd3b70285bbabc4b"), looks := false }, kinds := [], alts := [], laidByText := true, laidKinds := [.data, .pinned], laidTests := true, laidLooks := .later }
def CodeGoesCardSaid : Prop := Claim7.holds Tryd.pinned (.plain (OpenSpec.ofChange codeGoesSpec)) codeGoesCard

/-- THE SECOND FORM's CARD OF 'laceworklaw18.QshowShows'. -/
def qshowShowsUptoCard : Claim7 := { stood := { row := qshowShowsUptoRow, standIns := [], harness := (true, "21cc42f56d692a5365be756c32b45d73b419b8d502cd6a55fd3b70285bbabc4b"), looks := false }, kinds := [], alts := [], laidByText := true, laidKinds := [.data, .data, .data], laidTests := true, laidLooks := .later }
def QshowShowsUptoCardSaid : Prop := Claim7.holds Tryd.pinned (.plain (OpenSpec.upto qshowShowsSpec)) qshowShowsUptoCard

/-- THE SECOND FORM's CARD OF 'laceworklaw19.CodeGoes'. -/
def codeGoesUptoCard : Claim7 := { stood := { row := codeGoesUptoRow, standIns := [], harness := (true, "21cc42f56d692a5365be756c32b45d73b419b8d502cd6a55fd3b70285bbabc4b"), looks := false }, kinds := [], alts := [], laidByText := true, laidKinds := [.data, .pinned], laidTests := true, laidLooks := .later }
def CodeGoesUptoCardSaid : Prop := Claim7.holds Tryd.pinned (.plain (OpenSpec.upto codeGoesSpec)) codeGoesUptoCard
end Rows
end Go.Proofs.YtpcbcodmocmilaaDoor
