/- law10: awake. -/
import Derived.Test.YtdfamphnilelnaaDoorNf
namespace Go.Proofs.YtdfamphnilelnaaDoor
open Go.RowKit

theorem wf_i64 {n : Int} (h : (Lit.int .i64 n).wf = true) : -9223372036854775808 ≤ n ∧ n ≤ 9223372036854775807 := by
  have e1 : IntKind.i64.min = -9223372036854775808 := by decide
  have e2 : IntKind.i64.max = 9223372036854775807 := by decide
  simp only [Lit.wf, e1, e2] at h
  simpa using h
theorem wf_u8 {n : Int} (h : (Lit.int .u8 n).wf = true) : 0 ≤ n ∧ n ≤ 255 := by
  have e1 : IntKind.u8.min = 0 := by decide
  have e2 : IntKind.u8.max = 255 := by decide
  simp only [Lit.wf, e1, e2] at h
  simpa using h
theorem aw_whole : wholeL [45, 49, 46, 53, 48, 101, 49] = (-15, true) := by decide
theorem aw_is : (splitL [48]).isSome = true := by decide

set_option maxRecDepth 100000 in
set_option maxHeartbeats 1000000 in
theorem awake_any (w : World) :
    Calls Tryd.prog 9 #[] w fun e w' => e = .returned (.bool true) ∧ Bel w.heap.size w w' := by
  have hw := fun w => whole_any ⟨#[45, 49, 46, 53, 48, 101, 49]⟩ w (by decide)
  simp only [WH, aw_whole] at hw
  have hi := fun w => is_any ⟨#[48]⟩ w (by decide)
  simp only [aw_is] at hi
  have HB := Lib.hid (Bel.refl w.heap.size w)
  go_enter Tryd.func9, Tryd.ntmps9
  go_wp2_with (first
    | (go_at_call 13; refine (hw _).mono ?_; rintro e w1 ⟨rfl, hb⟩; have HB := Lib.hid (HB.out.next hb); clear hb)
    | (go_at_call 14; refine (hi _).mono ?_; rintro e w1 ⟨rfl, hb⟩; have HB := Lib.hid (HB.out.next hb); clear hb))
  go_ret
  exact ⟨rfl, HB.out⟩

end Go.Proofs.YtdfamphnilelnaaDoor
