/- num: digit, digits; ref10: digit, run. -/
import Derived.Test.YtdfamphnilelnaaDoorA1
namespace Go.Proofs.YtdfamphnilelnaaDoor
open Go.RowKit

def digB (c : Int) : Bool := decide (48 ≤ c) && decide (c ≤ 57)
theorem digB_eq (c : UInt8) : digB (c.toNat : Int) = isDig c := by
  rw [Bool.eq_iff_iff, dig_int]; simp [digB]

set_option maxHeartbeats 400000 in
theorem digit_any (c : Int) (w : World) :
    Calls Tryd.prog 32 #[.int .u8 c] w fun e w' => e = .returned (.bool (digB c)) ∧ w = w' := by
  unfold digB
  go_enter Tryd.func32, Tryd.ntmps32
  go_wp2
  all_goals (go_ret; exact ⟨ret_bool (by refine Bool.eq_iff_iff.2 ?_; simp <;> omega), rfl⟩)

set_option maxHeartbeats 400000 in
theorem digit2_any (c : Int) (w : World) :
    Calls Tryd.prog 34 #[.int .u8 c] w fun e w' => e = .returned (.bool (digB c)) ∧ w = w' := by
  unfold digB
  go_enter Tryd.func34, Tryd.ntmps34
  go_wp2
  all_goals (go_ret; exact ⟨ret_bool (by refine Bool.eq_iff_iff.2 ?_; simp <;> omega), rfl⟩)

theorem dig_step {s : ByteArray} {p : Nat} (h : p < s.size) (hd : digB (s[p].toNat : Int) = true) : digN (dr s p) = digN (dr s (p + 1)) + 1 := by
  rw [digB_eq] at hd
  unfold dr; rw [drop_cons s p h, digN, if_pos hd]
theorem dig_stop {s : ByteArray} {p : Nat} (h : ∀ h : p < s.size, digB (s[p].toNat : Int) = false) : digN (dr s p) = 0 := by
  by_cases hp : p < s.size
  · have := h hp
    rw [digB_eq] at this
    unfold dr; rw [drop_cons s p hp, digN, this]; rfl
  · unfold dr; rw [drop_nil s p (by omega)]; rfl

set_option maxRecDepth 100000 in
set_option maxHeartbeats 1000000 in
theorem digits_any (s : ByteArray) (w : World) (hs : s.size ≤ 9223372036854775000) :
    Calls Tryd.prog 23 #[.string s] w fun e w' => e = .returned (.int .i64 (digN s.data.toList : Nat)) ∧ w = w' := by
  go_enter Tryd.func23, Tryd.ntmps23
  go_wp2
  go_loop [3] (fun v => ∃ k : Nat, k ≤ s.size ∧ v = .int .i64 k ∧ Hid (digN s.data.toList = k + digN (dr s k))) (fun v => s.size - (intOf v).toNat)
  case atStart => exact ⟨0, by omega, rfl, Lib.hid (by simp [dr])⟩
  case round =>
    obtain ⟨k, hk, rfl, HD⟩ := hrel
    by_cases hlt : k < s.size
    · cases hb : digB (s[k].toNat : Int) with
      | true =>
        have H2 := Lib.hid (dig_step hlt hb)
        have hdg := fun w => digit_any (s[k].toNat : Int) w
        rw [hb] at hdg
        clear hb
        go_wp2_with (go_at_call 32; refine (hdg _).mono ?_; rintro e w' ⟨rfl, rfl⟩)
        go_round
        case rel => exact ⟨k + 1, by omega, by go_num, Lib.hid (by rw [HD.out, H2.out]; omega)⟩
        case measure => simp [intOf] <;> omega
      | false =>
        have H2 := Lib.hid (dig_stop (s := s) (p := k) (fun _ => hb))
        have hdg := fun w => digit_any (s[k].toNat : Int) w
        rw [hb] at hdg
        clear hb
        go_wp2_with (go_at_call 32; refine (hdg _).mono ?_; rintro e w' ⟨rfl, rfl⟩)
        go_ret
        exact ⟨ret_int (by rw [HD.out, H2.out]; simp), rfl⟩
    · have H2 := Lib.hid (dig_stop (s := s) (p := k) (fun h => absurd h hlt))
      go_wp2
      go_ret
      exact ⟨ret_int (by rw [HD.out, H2.out]; simp), rfl⟩

set_option maxRecDepth 100000 in
set_option maxHeartbeats 1000000 in
theorem run_any (s : ByteArray) (a : Nat) (w : World) (hs : s.size ≤ 9223372036854775000) (ha : a ≤ s.size) :
    Calls Tryd.prog 27 #[.string s, .int .i64 a] w fun e w' => e = .returned (.int .i64 (digN (dr s a) : Nat)) ∧ w = w' := by
  go_enter Tryd.func27, Tryd.ntmps27
  go_wp2
  go_loop [5] (fun v => ∃ k : Nat, a + k ≤ s.size ∧ v = .int .i64 k ∧ Hid (digN (dr s a) = k + digN (dr s (a + k)))) (fun v => s.size - (intOf v).toNat)
  case atStart => exact ⟨0, by omega, rfl, Lib.hid (by simp)⟩
  case round =>
    obtain ⟨k, hk, rfl, HD⟩ := hrel
    by_cases hlt : a + k < s.size
    · cases hb : digB (s[a + k].toNat : Int) with
      | true =>
        have H2 := Lib.hid (dig_step hlt hb)
        have hdg := fun w => digit2_any (s[a + k].toNat : Int) w
        rw [hb] at hdg
        clear hb
        go_wp2_with (go_at_call 34; refine (hdg _).mono ?_; rintro e w' ⟨rfl, rfl⟩)
        go_round
        case rel => exact ⟨k + 1, by omega, by go_num, Lib.hid (by rw [HD.out, H2.out, Nat.add_assoc a k 1]; omega)⟩
        case measure => simp [intOf] <;> omega
      | false =>
        have H2 := Lib.hid (dig_stop (s := s) (p := a + k) (fun _ => hb))
        have hdg := fun w => digit2_any (s[a + k].toNat : Int) w
        rw [hb] at hdg
        clear hb
        go_wp2_with (go_at_call 34; refine (hdg _).mono ?_; rintro e w' ⟨rfl, rfl⟩)
        go_ret
        exact ⟨ret_int (by rw [HD.out, H2.out]; simp), rfl⟩
    · have H2 := Lib.hid (dig_stop (s := s) (p := a + k) (fun h => absurd h hlt))
      go_wp2
      go_ret
      exact ⟨ret_int (by rw [HD.out, H2.out]; simp), rfl⟩

end Go.Proofs.YtdfamphnilelnaaDoor
