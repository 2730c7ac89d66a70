/- qlex: Lex: memory and law, step by step. -/
import Derived.Test.YtihfhohdnjbahaaDoorWo
namespace Go.Proofs.YtihfhohdnjbahaaDoor
open Go.RowKit

theorem tl_at (s r : ByteArray) (a g : Nat) (w : World) (_ : a ≤ s.size) (hg : bkN (dr s a) = g) (hr : r = s.extract (a + g) s.size) :
    Calls Tryd.prog 11 #[.string (s.extract a s.size), .string ⟨#[32, 9, 10, 13]⟩] w fun e w' => e = .returned (.string r) ∧ Below w.heap.size w w' := by
  have := tl_any (s.extract a s.size) w
  rw [ext_drop, show s.data.toList.drop a = dr s a from rfl, hg] at this
  refine this.mono ?_
  rintro e w' ⟨rfl, hb⟩
  refine ⟨ret_str ?_, hb⟩
  rw [hr]
  exact (bs_of (by rw [ext_drop, ext_drop, List.drop_drop])).trans (bs_of (ext_drop s (a + g))).symm
end Go.Proofs.YtihfhohdnjbahaaDoor
