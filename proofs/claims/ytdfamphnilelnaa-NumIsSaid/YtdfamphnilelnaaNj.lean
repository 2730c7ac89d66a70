/- The law NumIs walked. -/
import Derived.Test.YtdfamphnilelnaaNi
namespace Go.Proofs.Ytdfamphnilelnaa
open Go.RowKit

theorem aw_whole : wholeL [45, 49, 46, 53, 48, 101, 49] = (-15, true) := by decide
theorem aw_is : (splitL [48]).isSome = true := by decide

set_option maxRecDepth 100000 in
set_option maxHeartbeats 1000000 in
theorem awake_any (w : World) :
    Calls Try.prog 4 #[] w fun e w' => e = .returned (.bool true) ∧ Bel w.heap.size w w' := by
  have hw := fun w => whole_any ⟨#[45, 49, 46, 53, 48, 101, 49]⟩ w (by decide)
  simp only [WH, show (⟨#[45, 49, 46, 53, 48, 101, 49]⟩ : ByteArray).data.toList = [45, 49, 46, 53, 48, 101, 49] from rfl, aw_whole] at hw
  have hi := fun w => is_any ⟨#[48]⟩ w (by decide)
  simp only [show (⟨#[48]⟩ : ByteArray).data.toList = [48] from rfl, aw_is] at hi
  have HB := Lib.hid (Bel.refl w.heap.size w)
  go_enter Try.func4, Try.ntmps4
  go_wp2_with (first
    | (go_at_call 5; refine (hw _).mono ?_; rintro e w1 ⟨rfl, hb⟩; have HB := Lib.hid (HB.out.next hb); clear hb)
    | (go_at_call 7; refine (hi _).mono ?_; rintro e w1 ⟨rfl, hb⟩; have HB := Lib.hid (HB.out.next hb); clear hb))
  go_ret
  exact ⟨rfl, HB.out⟩

def F1 (s : ByteArray) : Prop := ∀ w : World, Calls Try.prog 3 #[.string s] w fun e w' => e = .returned (.bool true) ∧ Bel w.heap.size w w'

set_option maxRecDepth 100000 in
set_option maxHeartbeats 2000000 in
theorem is_big (s : ByteArray) (hs : s.size ≤ 9223372036854775807) (h : 200 < s.size) : F1 s := by
  intro w
  have haw := awake_any
  have HB := Lib.hid (Bel.refl w.heap.size w)
  go_enter Try.func3, Try.ntmps3
  go_wp2_with (go_at_call 4; refine (haw _).mono ?_; rintro e w1 ⟨rfl, hb⟩; have HB := Lib.hid (HB.out.next hb); clear hb)
  go_ret
  exact ⟨rfl, HB.out⟩

set_option maxRecDepth 100000 in
set_option maxHeartbeats 2000000 in
theorem is_sm (s : ByteArray) (h0 : s.size ≤ 200) : F1 s := by
  intro w
  have haw := awake_any
  have HB := Lib.hid (Bel.refl w.heap.size w)
  have hw := fun w => whole_any s w (by omega)
  have hr := fun w => refWhole_any s w (by omega)
  rw [← wholeL_eq _ (by rw [len_toList]; omega)] at hr
  simp only [WH] at hw
  simp only [RWH] at hr
  have hi := fun w => is_any s w (by omega)
  have hj := fun w => refIs_any s w (by omega)
  generalize wholeL s.data.toList = r at *
  generalize (splitL s.data.toList).isSome = p at *
  obtain ⟨n, b⟩ := r
  simp only at hw hr
  cases b
  all_goals
    cases p
    all_goals
      go_enter Try.func3, Try.ntmps3
      go_wp2_with (first
        | (go_at_call 4; refine (haw _).mono ?_; rintro e w1 ⟨rfl, hb⟩; have HB := Lib.hid (HB.out.next hb); clear hb)
        | (go_at_call 5; refine (hw _).mono ?_; rintro e w1 ⟨rfl, hb⟩; have HB := Lib.hid (HB.out.next hb); clear hb)
        | (go_at_call 7; refine (hi _).mono ?_; rintro e w1 ⟨rfl, hb⟩; have HB := Lib.hid (HB.out.next hb); clear hb)
        | (go_at_call 6; refine (hr _).mono ?_; rintro e w1 ⟨rfl, hb⟩; have HB := Lib.hid (HB.out.next hb); clear hb)
        | (go_at_call 8; refine (hj _).mono ?_; rintro e w1 ⟨rfl, hb⟩; have HB := Lib.hid (HB.out.next hb); clear hb))
      go_ret
      exact ⟨rfl, HB.out⟩

theorem isLaw_any (s : ByteArray) (w : World) (hs : s.size ≤ 9223372036854775807) :
    Calls Try.prog 3 #[.string s] w fun e w' => e = .returned (.bool true) ∧ Bel w.heap.size w w' := by
  rcases Nat.lt_or_ge 200 s.size with h | h
  · exact is_big s hs h w
  · exact is_sm s h w

end Go.Proofs.Ytdfamphnilelnaa
