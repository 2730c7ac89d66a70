/- The laws NumOrder and NumMinus walked. -/
import Derived.Test.YtdfamphnilelnaaDoorAw
import Derived.Test.YtdfamphnilelnaaDoorDp
namespace Go.Proofs.YtdfamphnilelnaaDoor
open Go.RowKit

theorem order_plain (l : L8) (a b : Int) (h : a < b) (a0 : -9223372036854775808 ≤ a) (b1 : b ≤ 9223372036854775807) :
    cmpL l b ≤ cmpL l a ∧ (cmpL l a = 0 → cmpL l b = 0 → (splitL l).isSome = false) := by
  unfold cmpL
  cases splitL l with
  | none => exact ⟨Int.le_refl _, fun _ _ => rfl⟩
  | some x =>
    obtain ⟨h1, h2⟩ := cmp_down (readV x) a b h a0 b1
    exact ⟨h1, fun e1 e2 => (h2 ⟨e1, e2⟩).elim⟩
theorem cmpVV_bd (a b : NV) : -1 ≤ cmpVV a b ∧ cmpVV a b ≤ 1 := by
  unfold cmpVV
  have h := sideV_bd a; have hz := sizeV_bd a b
  split
  · omega
  · split
    · omega
    · rcases h with h | h | h <;> rw [h] <;> omega
theorem cmpL_bd (l : L8) (n : Int) : -1 ≤ cmpL l n ∧ cmpL l n ≤ 1 := by
  unfold cmpL
  cases splitL l with
  | none => simp
  | some x => exact cmpVV_bd _ _

def O1 (s : ByteArray) (a b : Int) : Prop := ∀ w : World, Tab w → Calls Tryd.prog 7 #[.string s, .int .i64 a, .int .i64 b] w fun e w' => e = .returned (.bool true) ∧ Bel w.heap.size w w'

set_option maxRecDepth 100000 in
set_option maxHeartbeats 2000000 in
theorem order_out (s : ByteArray) (a b : Int) (hs : s.size ≤ 9223372036854775807) (h : 200 < s.size ∨ b ≤ a) : O1 s a b := by
  intro w _
  have haw := awake_any
  have HB := Lib.hid (Bel.refl w.heap.size w)
  by_cases h1 : 200 < s.size
  · go_enter Tryd.func7, Tryd.ntmps7
    go_wp2_with (go_at_call 9; refine (haw _).mono ?_; rintro e w1 ⟨rfl, hb⟩; have HB := Lib.hid (HB.out.next hb); clear hb)
    go_ret
    exact ⟨rfl, HB.out⟩
  · have h2 : b ≤ a := by omega
    go_enter Tryd.func7, Tryd.ntmps7
    go_wp2_with (go_at_call 9; refine (haw _).mono ?_; rintro e w1 ⟨rfl, hb⟩; have HB := Lib.hid (HB.out.next hb); clear hb)
    go_ret
    exact ⟨rfl, HB.out⟩

set_option maxRecDepth 100000 in
set_option maxHeartbeats 2000000 in
theorem order_in (s : ByteArray) (a b : Int) (a0 : -9223372036854775808 ≤ a) (b1 : b ≤ 9223372036854775807) (h0 : s.size ≤ 200) (hab : a < b) : O1 s a b := by
  intro w ht
  have haw := awake_any
  have HT := Lib.hid ht; clear ht
  have HB := Lib.hid (Bel.refl w.heap.size w)
  have hc := fun n h0 h1 w ht => cmp_any s n w h0 h1 ht (by omega)
  have hca := fun w h => hc a a0 (by omega) w h
  have hcb := fun w h => hc b (by omega) b1 w h
  simp only [CH] at hca hcb
  have hi := fun w => is_any s w (by omega)
  have ho := order_plain s.data.toList a b hab a0 b1
  have hxb := cmpL_bd s.data.toList a
  have hyb := cmpL_bd s.data.toList b
  clear hc
  generalize cmpL s.data.toList a = x at *
  generalize cmpL s.data.toList b = y at *
  generalize (splitL s.data.toList).isSome = p at *
  obtain ⟨ho1, ho2⟩ := ho
  by_cases x0 : x = 0
  · by_cases y0 : y = 0
    · obtain rfl := ho2 x0 y0
      subst x0; subst y0
      go_enter Tryd.func7, Tryd.ntmps7
      go_wp2_with (first
        | (go_at_call 9; refine (haw _).mono ?_; rintro e w1 ⟨rfl, hb⟩; have HB := Lib.hid (HB.out.next hb); clear hb)
        | (go_at_call_of 10 (Value.int IntKind.i64 a); refine (hca _ (HT.out.bel HB.out (Nat.le_refl _))).mono ?_; rintro e w1 ⟨rfl, hb⟩; have HB := Lib.hid (HB.out.next hb); clear hb)
        | (go_at_call_of 10 (Value.int IntKind.i64 b); refine (hcb _ (HT.out.bel HB.out (Nat.le_refl _))).mono ?_; rintro e w1 ⟨rfl, hb⟩; have HB := Lib.hid (HB.out.next hb); clear hb)
        | (go_at_call 14; refine (hi _).mono ?_; rintro e w1 ⟨rfl, hb⟩; have HB := Lib.hid (HB.out.next hb); clear hb))
      go_ret
      exact ⟨rfl, HB.out⟩
    · have hyn : (y != 0) = true := bne_iff_ne.2 y0
      subst x0
      clear ho2
      go_enter Tryd.func7, Tryd.ntmps7
      go_wp2_with (first
        | (go_at_call 9; refine (haw _).mono ?_; rintro e w1 ⟨rfl, hb⟩; have HB := Lib.hid (HB.out.next hb); clear hb)
        | (go_at_call_of 10 (Value.int IntKind.i64 a); refine (hca _ (HT.out.bel HB.out (Nat.le_refl _))).mono ?_; rintro e w1 ⟨rfl, hb⟩; have HB := Lib.hid (HB.out.next hb); clear hb)
        | (go_at_call_of 10 (Value.int IntKind.i64 b); refine (hcb _ (HT.out.bel HB.out (Nat.le_refl _))).mono ?_; rintro e w1 ⟨rfl, hb⟩; have HB := Lib.hid (HB.out.next hb); clear hb))
      go_ret
      exact ⟨rfl, HB.out⟩
  · have hxn : (x != 0) = true := bne_iff_ne.2 x0
    clear ho2
    go_enter Tryd.func7, Tryd.ntmps7
    go_wp2_with (first
      | (go_at_call 9; refine (haw _).mono ?_; rintro e w1 ⟨rfl, hb⟩; have HB := Lib.hid (HB.out.next hb); clear hb)
      | (go_at_call_of 10 (Value.int IntKind.i64 a); refine (hca _ (HT.out.bel HB.out (Nat.le_refl _))).mono ?_; rintro e w1 ⟨rfl, hb⟩; have HB := Lib.hid (HB.out.next hb); clear hb)
      | (go_at_call_of 10 (Value.int IntKind.i64 b); refine (hcb _ (HT.out.bel HB.out (Nat.le_refl _))).mono ?_; rintro e w1 ⟨rfl, hb⟩; have HB := Lib.hid (HB.out.next hb); clear hb))
    go_ret
    exact ⟨rfl, HB.out⟩

theorem orderLaw_any (s : ByteArray) (a b : Int) (w : World) (ht : Tab w) (hs : s.size ≤ 9223372036854775807) (ha : (Lit.int .i64 a).wf = true) (hb : (Lit.int .i64 b).wf = true) :
    Calls Tryd.prog 7 #[.string s, .int .i64 a, .int .i64 b] w fun e w' => e = .returned (.bool true) ∧ Bel w.heap.size w w' := by
  by_cases h : 200 < s.size ∨ b ≤ a
  · exact order_out s a b hs h w ht
  · exact order_in s a b (wf_i64 ha).1 (wf_i64 hb).2 (by omega) (by omega) w ht

end Go.Proofs.YtdfamphnilelnaaDoor
