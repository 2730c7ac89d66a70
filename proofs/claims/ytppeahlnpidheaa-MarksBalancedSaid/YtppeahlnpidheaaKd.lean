/- ref09: Live: it returns a number within the text. -/
import Derived.Test.YtppeahlnpidheaaKc
namespace Go.Proofs.Ytppeahlnpidheaa
open Go.RowKit

theorem scalM_bd (s : ByteArray) : 0 ≤ (scalM s).2 ∧ (scalM s).2 ≤ s.size := by
  unfold scalM
  split
  · simp
  · split
    · constructor <;> simp <;> omega
    · split
      · simp
      · split
        · split
          · simp
          · split <;> constructor <;> simp <;> omega
        · split
          · split
            · simp
            · split <;> constructor <;> simp <;> omega
          · split
            · split
              · simp
              · split <;> constructor <;> simp <;> omega
            · simp

theorem bel_of_next {a b c : World} (h : Bel a.heap.size a b) (k : Below b.heap.size b c) : Bel a.heap.size a c := h.next (.of k)

set_option maxRecDepth 100000 in
set_option maxHeartbeats 1000000 in
theorem live_any (s : ByteArray) (w : World) (hs : s.size ≤ 9223372036854775000) :
    Calls Try.prog 22 #[.string s] w fun e w' => ∃ n : Int, 0 ≤ n ∧ n ≤ s.size ∧ e = .returned (.int .i64 n) ∧ Bel w.heap.size w w' := by
  go_enter Try.func22, Try.ntmps22
  go_wp2
  go_loopw [3] (fun a wr => ∃ k : Nat, k ≤ s.size ∧ a = .int .i64 k ∧ Bel w.heap.size w wr) (fun a _ => s.size - (intOf a).toNat)
  case atStart => exact ⟨0, by omega, rfl, Bel.refl _ _⟩
  case round =>
    obtain ⟨k, hk, rfl, hb1⟩ := hrel
    have Hb1 := Lib.hid hb1; clear hb1
    by_cases hlt : k < s.size
    · have hsz : (s.extract k s.size).size ≤ maxLen := by simp; unfold maxLen; omega
      have hbd := scalM_bd (s.extract k s.size)
      have hsc := fun w => scal_any (s.extract k s.size) w hsz
      rw [show (s.extract k s.size).size = s.size - k by simp] at hbd
      generalize scalM (s.extract k s.size) = r at hbd hsc
      obtain ⟨r1, r2⟩ := r
      obtain ⟨hr0, hr1⟩ := hbd
      dsimp only at hr0 hr1
      by_cases hz : r2 = 0
      · have hz' : (r2 == 0) = true := by simp [hz]
        clear hz
        go_wp2_with (go_at_call 21; refine (hsc _).mono ?_; rintro e w5 ⟨rfl, hb5⟩)
        have Hb1 := Lib.hid (Hb1.out.and hb5 Hb1.out.size)
        go_loopw [6] (fun kv wr => ∃ q : Nat, q ≤ 3 ∧ k + q ≤ s.size ∧ kv = .int .i64 q ∧ Bel w.heap.size w wr) (fun kv _ => 3 - (intOf kv).toNat)
        case atStart => exact ⟨0, by omega, by omega, rfl, Hb1.out⟩
        case round =>
          obtain ⟨q, hq, hkq, rfl, hb2⟩ := hrel
          have Hb2 := Lib.hid hb2; clear hb2
          by_cases hl : q < 3 ∧ k + q < s.size
          · obtain ⟨hl1, hl2⟩ := hl
            have hp : (s.extract k (k + q + 1)).size ≤ 3 := by simp; omega
            go_wp2_with (go_at_call 29; refine (part_any _ _ hp).mono ?_; rintro e w6 ⟨b, rfl, hb6⟩)
            all_goals first
              | (go_roundw
                 case rel => exact ⟨q + 1, by omega, by omega, by go_num, Hb2.out.trans (hb6.mono Hb2.out.size)⟩
                 case measure => simp [intOf] <;> omega)
              | (go_ret
                 exact ⟨(k : Int) + q, by omega, by omega, rfl, Hb2.out.trans (hb6.mono Hb2.out.size)⟩)
          · by_cases hl1 : q < 3
            · have hl2 : s.size ≤ k + q := by omega
              clear hl
              go_wp2
              go_ret
              exact ⟨(k : Int) + q, by omega, by omega, rfl, Hb2.out⟩
            · clear hl
              go_wp2
              go_ret
              exact ⟨(k : Int) + q, by omega, by omega, rfl, Hb2.out⟩
      · have hz' : (r2 == 0) = false := by simp [hz]
        go_wp2_with (go_at_call 21; refine (hsc _).mono ?_; rintro e w5 ⟨rfl, hb5⟩)
        go_roundw
        case rel => exact ⟨k + r2.toNat, by omega, by go_num, Hb1.out.and hb5 Hb1.out.size⟩
        case measure => simp [intOf] <;> omega
    · go_wp2
      go_loopw [6] (fun kv wr => ∃ q : Nat, q ≤ 3 ∧ k + q ≤ s.size ∧ kv = .int .i64 q ∧ Bel w.heap.size w wr) (fun kv _ => 3 - (intOf kv).toNat)
      case atStart => exact ⟨0, by omega, by omega, rfl, Hb1.out⟩
      case round =>
        obtain ⟨q, hq, hkq, rfl, hb2⟩ := hrel
        have Hb2 := Lib.hid hb2; clear hb2
        by_cases hl : q < 3 ∧ k + q < s.size
        · obtain ⟨hl1, hl2⟩ := hl
          have hp : (s.extract k (k + q + 1)).size ≤ 3 := by simp; omega
          go_wp2_with (go_at_call 29; refine (part_any _ _ hp).mono ?_; rintro e w6 ⟨b, rfl, hb6⟩)
          all_goals first
            | (go_roundw
               case rel => exact ⟨q + 1, by omega, by omega, by go_num, Hb2.out.trans (hb6.mono Hb2.out.size)⟩
               case measure => simp [intOf] <;> omega)
            | (go_ret
               exact ⟨(k : Int) + q, by omega, by omega, rfl, Hb2.out.trans (hb6.mono Hb2.out.size)⟩)
        · by_cases hl1 : q < 3
          · have hl2 : s.size ≤ k + q := by omega
            clear hl
            go_wp2
            go_ret
            exact ⟨(k : Int) + q, by omega, by omega, rfl, Hb2.out⟩
          · clear hl
            go_wp2
            all_goals (go_ret; exact ⟨(k : Int) + q, by omega, by omega, rfl, Hb2.out⟩)

end Go.Proofs.Ytppeahlnpidheaa
