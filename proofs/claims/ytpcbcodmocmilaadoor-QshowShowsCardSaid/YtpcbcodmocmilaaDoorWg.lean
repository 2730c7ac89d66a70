/- The library's functions that qlex calls, in my words: HasPrefix, IndexByte, TrimLeft, a Builder's WriteString and String. -/
import Derived.Test.YtpcbcodmocmilaaDoorShq
import Derived.Test.YtpcbcodmocmilaaDoorUp
namespace Go.Proofs.YtpcbcodmocmilaaDoor
open Go.RowKit

set_option maxRecDepth 100000 in
set_option maxHeartbeats 1000000 in
theorem cc_used (b : Nat) (w : World) (h0 : w.cell? ⟨b, 0, none⟩ = some (.pointer (some ⟨b, 0, none⟩))) :
    Calls Tryd.prog 44 #[.pointer (some ⟨b, 0, none⟩)] w fun e w' => e = .returned (.tuple #[]) ∧ w' = w := by
  obtain ⟨j, hj, _⟩ := Option.map_eq_some_iff.1 Tryd.Builder_Extra_169.sizeBuilder
  go_enter Tryd.func44, Tryd.ntmps44
  go_wp2
  rw [Lib.run_neq_ptr_same w _ Tryd.underlying56 hj]
  go_wp2
  go_end0
  exact ⟨rfl, rfl⟩

end Go.Proofs.YtpcbcodmocmilaaDoor
