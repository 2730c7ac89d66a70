/- utf: first, Step, lead, tail: the machine of states. -/
import Derived.Laws.BitsLemmas
import Derived.Test.YtihfhohdnjbahaaDoorUb
namespace Go.Proofs.YtihfhohdnjbahaaDoor
open Go.RowKit

set_option maxRecDepth 100000 in
set_option maxHeartbeats 1000000 in
theorem ufirst_any (b : Int) (w : World) (h0 : 0 ≤ b) (h1 : b < 256) :
    Calls Tryd.prog 55 #[.int .u8 b] w fun e w' => e = .returned (.int .i64 (ufirst b)) ∧ w = w' := by
  go_enter Tryd.func55, Tryd.ntmps55
  go_wp2
  all_goals
    go_ret
    exact ⟨ret_int (by unfold ufirst; (try simp only [beq_iff_eq, beq_eq_false_iff_ne, ne_eq] at *); (repeat' split) <;> omega), rfl⟩

theorem ufirst_bd (b : Int) : 0 ≤ ufirst b ∧ ufirst b ≤ 8 := by unfold ufirst; (repeat' split) <;> omega
theorem ustep_bd (st b : Int) : 0 ≤ ustep st b ∧ ustep st b ≤ 8 := by
  have := ufirst_bd b
  unfold ustep; (repeat' split) <;> omega

set_option maxRecDepth 100000 in
set_option maxHeartbeats 1000000 in
theorem ustep_any (st b : Int) (w : World) (h0 : 0 ≤ b) (h1 : b < 256) (h2 : 0 ≤ st) (h3 : st ≤ 8) :
    Calls Tryd.prog 45 #[.int .i64 st, .int .u8 b] w fun e w' => e = .returned (.int .i64 (ustep st b)) ∧ w = w' := by
  go_enter Tryd.func45, Tryd.ntmps45
  go_wp2_with (go_at_call 55; refine (ufirst_any _ _ (by omega) (by omega)).mono ?_; rintro e w' ⟨rfl, rfl⟩)
  all_goals
    go_ret
    exact ⟨ret_int (by unfold ustep; (try simp only [beq_iff_eq, beq_eq_false_iff_ne, ne_eq] at *); (repeat' split) <;> omega), rfl⟩

set_option maxRecDepth 100000 in
set_option maxHeartbeats 1000000 in
theorem ulead_any (b : Int) (w : World) (h0 : 0 ≤ b) (h1 : b < 256) :
    Calls Tryd.prog 46 #[.int .u8 b] w fun e w' => e = .returned (.int .i64 (ulead b)) ∧ w = w' := by
  go_enter Tryd.func46, Tryd.ntmps46
  go_wp2
  all_goals
    go_ret
    exact ⟨ret_int (by unfold ulead; (repeat' split) <;> omega), rfl⟩

theorem wraps_i64 (n : Int) (h₀ : 0 ≤ n) (h₁ : n < 2 ^ 62) : IntKind.i64.wrap n = n := by rw [IntKind.wrap_i64]; omega
theorem and63 (x : Int) (h0 : 0 ≤ x) (h1 : x < 4611686018427387904) : bits .and .i64 x 63 = x % 64 := bits_mask .i64 62 (by decide) wraps_i64 6 (by decide) x h0 h1
theorem and31 (x : Int) (h0 : 0 ≤ x) (h1 : x < 4611686018427387904) : bits .and .i64 x 31 = x % 32 := bits_mask .i64 62 (by decide) wraps_i64 5 (by decide) x h0 h1
theorem and15 (x : Int) (h0 : 0 ≤ x) (h1 : x < 4611686018427387904) : bits .and .i64 x 15 = x % 16 := bits_mask .i64 62 (by decide) wraps_i64 4 (by decide) x h0 h1
theorem and7 (x : Int) (h0 : 0 ≤ x) (h1 : x < 4611686018427387904) : bits .and .i64 x 7 = x % 8 := bits_mask .i64 62 (by decide) wraps_i64 3 (by decide) x h0 h1
theorem orI (i : Nat) (x y : Int) (h0 : 0 ≤ x) (hx : x % 2 ^ i = 0) (h1 : x < 4611686018427387904) (h2 : 0 ≤ y) (h3 : y < 2 ^ i) (h4 : y < 4611686018427387904) : bits .or .i64 x y = x + y :=
  bits_join .i64 62 (by decide) wraps_i64 i x y h0 hx h1 h2 h3 h4

set_option maxRecDepth 100000 in
set_option maxHeartbeats 1000000 in
theorem utail_any (c : Int) (w : World) (h0 : 0 ≤ c) (h1 : c < 2097152) :
    Calls Tryd.prog 50 #[.int .i64 c] w fun e w' => e = .returned (.int .u8 (128 + c % 64)) ∧ w = w' := by
  have e1 := and63 c h0 (by omega)
  have e2 : bits .or .i64 128 (c % 64) = 128 + c % 64 := orI 6 _ _ (by omega) (by omega) (by omega) (by omega) (by omega) (by omega)
  have e3 : IntKind.u8.wrap (128 + c % 64) = 128 + c % 64 := by rw [IntKind.wrap_u8]; omega
  go_enter Tryd.func50, Tryd.ntmps50
  go_wp2
  go_ret
  exact ⟨rfl, rfl⟩

end Go.Proofs.YtihfhohdnjbahaaDoor
