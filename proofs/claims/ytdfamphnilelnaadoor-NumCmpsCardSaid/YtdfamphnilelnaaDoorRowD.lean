/- The rows' common part: the library's tables as they are laid. -/
import Derived.Test.YtdfamphnilelnaaDoorRowA
import Derived.Test.YtdfamphnilelnaaDoorDa
import Derived.LaidMore
import Derived.Stop.Joined
import Derived.Stop.LaidErr
namespace Go.Proofs.YtdfamphnilelnaaDoor
open Go.ChangeShapes Go.WideShapes Go.ChangeAt Go.RowKit

def laid3 : List (String × DataW Unit) := [("math/bits.deBruijn32tab", Rows.laid_math_bits_deBruijn32tab), ("math/bits.deBruijn64tab", Rows.laid_math_bits_deBruijn64tab), ("internal/strconv.uint64pow10", Rows.laid_internal_strconv_uint64pow10)]
/-- The door's own heap meets the condition. -/
theorem door_met (os : Os) (args : Array Value) : laidMetH Tryd.prog laid3 ((World.doorLaid Tryd.prog 400 os).forCall (fun _ _ => 0) ⟨#[], args, []⟩).memory := by
  rw [MakeChecks.laidMetH_plain _ _ _ (by kernel_rfl)]
  exact laidMet_of_run' 8 (by kernel_rfl) (by kernel_rfl)
theorem tab_g : ∃ g, Tryd.prog.globalNamed "internal/strconv.uint64pow10" = some g ∧ (Tryd.prog.globals[g]?).map (·.type) = some 69 := ⟨0, by kernel_rfl, by kernel_rfl⟩
theorem tab_cells1 : Tryd.prog.cellsOf 63 = 1 := by kernel_rfl
theorem tab_cells20 : Tryd.prog.cellsOf 69 = 20 := by kernel_rfl
/-- What the condition gives the walk. -/
theorem tab_of_laid {W : World} (h : laidMetH Tryd.prog laid3 W) : Tab W := by
  rw [MakeChecks.laidMetH_plain _ _ _ (by kernel_rfl)] at h
  have h : laidMet Tryd.prog laid3 W := h
  obtain ⟨g, hg, hty⟩ := tab_g
  have h2 : laidMet Tryd.prog (("internal/strconv.uint64pow10", Lib.tabData .u64 Lib.pow10Tab) :: []) W := h.tail.tail
  exact Lib.tabIs_of_head hg hty Tryd.underlying69 Tryd.underlying63 tab_cells1 tab_cells20 h2

end Go.Proofs.YtdfamphnilelnaaDoor
