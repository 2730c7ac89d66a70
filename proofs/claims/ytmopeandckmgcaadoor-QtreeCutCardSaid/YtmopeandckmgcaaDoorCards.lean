/-
  DERIVED. GIVEN WITH THE SEED: THE CARDS: each row of YtmopeandckmgcaaDoorRows.lean that lists a variable, with what it lists TIED to the program's text (the seventh form; the later family's looks); each row that meets fmt, with fmt's text TOLD by the authors' own Lean function (tested against real Go, not proved from fmt's source: count such statements apart). THE CARD IS WHAT COUNTS. Prove the row's statement (the work); the ties are given (YtmopeandckmgcaaDoorTie.lean); close each card by the builder's one call (the guide's Derived/Test/ToyasCard.lean, 'card_holds'). Laid BY PROGRAM, IN A SANDBOX (cutbox-door.mjs). By AI agents, Wed Nov 11 2026. No macro, syntax, notation, axiom, sorry.
-/
import Derived.Test.YtmopeandckmgcaaDoorRows
import GoSem.ClaimSeven
namespace Go.Proofs.YtmopeandckmgcaaDoor
namespace Rows

/-- THE TIED CARD OF 'laceworklaw17.QtreeBlanks'. -/
def qtreeBlanksCard : Claim7 := { stood := { row := qtreeBlanksRow, standIns := [], harness := (true, "2f0db856da976ba9c2086c0c014655aa6712d17612f5d907b81138406669023f"), looks := false }, kinds := [], alts := [], laidByText := true, laidKinds := [.data, .pinned], laidTests := true, laidLooks := .later }
def QtreeBlanksCardSaid : Prop := Claim7.holds Tryd.pinned (.plain (OpenSpec.ofChange qtreeBlanksSpec)) qtreeBlanksCard

/-- THE TIED CARD OF 'laceworklaw17.QtreeDeep'. -/
def qtreeDeepCard : Claim7 := { stood := { row := qtreeDeepRow, standIns := [], harness := (true, "2f0db856da976ba9c2086c0c014655aa6712d17612f5d907b81138406669023f"), looks := false }, kinds := [], alts := [], laidByText := true, laidKinds := [.data, .pinned], laidTests := true, laidLooks := .later }
def QtreeDeepCardSaid : Prop := Claim7.holds Tryd.pinned (.plain (OpenSpec.ofChange qtreeDeepSpec)) qtreeDeepCard

/-- THE TIED CARD OF 'laceworklaw17.QtreeMany'. -/
def qtreeManyCard : Claim7 := { stood := { row := qtreeManyRow, standIns := [], harness := (true, "2f0db856da976ba9c2086c0c014655aa6712d17612f5d907b81138406669023f"), looks := false }, kinds := [], alts := [], laidByText := true, laidKinds := [.data, .pinned], laidTests := true, laidLooks := .later }
def QtreeManyCardSaid : Prop := Claim7.holds Tryd.pinned (.plain (OpenSpec.ofChange qtreeManySpec)) qtreeManyCard

/-- THE TIED CARD OF 'laceworklaw17.QtreeCut'. -/
def qtreeCutCard : Claim7 := { stood := { row := qtreeCutRow, standIns := [], harness := (true, "2f0db856da976ba9c2086c0c014655aa6712d17612f5d907b81138406669023f"), looks := false }, kinds := [], alts := [], laidByText := true, laidKinds := [.data, .pinned], laidTests := true, laidLooks := .later }
def QtreeCutCardSaid : Prop := Claim7.holds Tryd.pinned (.plain (OpenSpec.ofChange qtreeCutSpec)) qtreeCutCard

/-- THE SECOND FORM's CARD OF 'laceworklaw17.QtreeBlanks'. -/
def qtreeBlanksUptoCard : Claim7 := { stood := { row := qtreeBlanksUptoRow, standIns := [], harness := (true, "2f0db856da976ba9c2086c0c014655aa6712d17612f5d907b81138406669023f"), looks := false }, kinds := [], alts := [], laidByText := true, laidKinds := [.data, .pinned], laidTests := true, laidLooks := .later }
def QtreeBlanksUptoCardSaid : Prop := Claim7.holds Tryd.pinned (.plain (OpenSpec.upto qtreeBlanksSpec)) qtreeBlanksUptoCard

/-- THE SECOND FORM's CARD OF 'laceworklaw17.QtreeDeep'. -/
def qtreeDeepUptoCard : Claim7 := { stood := { row := qtreeDeepUptoRow, standIns := [], harness := (true, "2f0db856da976ba9c2086c0c014655aa6712d17612f5d907b81138406669023f"), looks := false }, kinds := [], alts := [], laidByText := true, laidKinds := [.data, .pinned], laidTests := true, laidLooks := .later }
def QtreeDeepUptoCardSaid : Prop := Claim7.holds Tryd.pinned (.plain (OpenSpec.upto qtreeDeepSpec)) qtreeDeepUptoCard

/-- THE SECOND FORM's CARD OF 'laceworklaw17.QtreeMany'. -/
def qtreeManyUptoCard : Claim7 := { stood := { row := qtreeManyUptoRow, standIns := [], harness := (true, "2f0db856da976ba9c2086c0c014655aa6712d17612f5d907b81138406669023f"), looks := false }, kinds := [], alts := [], laidByText := true, laidKinds := [.data, .pinned], laidTests := true, laidLooks := .later }
def QtreeManyUptoCardSaid : Prop := Claim7.holds Tryd.pinned (.plain (OpenSpec.upto qtreeManySpec)) qtreeManyUptoCard

/-- THE SECOND FORM's CARD OF 'laceworklaw17.QtreeCut'. -/
def qtreeCutUptoCard : Claim7 := { stood := { row := qtreeCutUptoRow, standIns := [], harness := (true, "2f0db856da976ba9c2086c0c014655aa6712d17612f5d907b81138406669023f"), looks := false }, kinds := [], alts := [], laidByText := true, laidKinds := [.data, .pinned], laidTests := true, laidLooks := .later }
def QtreeCutUptoCardSaid : Prop := Claim7.holds Tryd.pinned (.plain (OpenSpec.upto qtreeCutSpec)) qtreeCutUptoCard
end Rows
end Go.Proofs.YtmopeandckmgcaaDoor
