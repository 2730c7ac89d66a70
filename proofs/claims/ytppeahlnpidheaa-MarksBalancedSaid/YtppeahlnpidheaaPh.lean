/- ref06.Balanced. -/
import Derived.Test.YtppeahlnpidheaaPe0
import Derived.Test.YtppeahlnpidheaaJw
namespace Go.Proofs.Ytppeahlnpidheaa
open Go.RowKit

set_option maxRecDepth 100000 in
set_option maxHeartbeats 2000000 in
theorem balanced_any (A : Option Addr) (l : List Bool) (c : Nat) (w : World) (hm : l.length ≤ 1000000) (h : Rd w A (l.map Value.bool)) (hl : lev 0 l = some 0) :
    Calls Try.prog 18 #[.slice A l.length c] w fun e w' => e = .returned (.bool true) ∧ w = w' := by
  have HL := Lib.hid (show lev 0 (l.drop 0) = some 0 from hl)
  clear hl
  go_enter Try.func18, Try.ntmps18
  go_wp2
  go_loop [3, 4] (fun e i => ∃ (k lv : Nat), k ≤ l.length ∧ lv ≤ k ∧ e = .int .i64 lv ∧ i = .int .i64 k ∧ Hid (lev lv (l.drop k) = some 0)) (fun _ i => l.length - (intOf i).toNat)
  case atStart => exact ⟨0, 0, by omega, by omega, rfl, rfl, HL⟩
  case round =>
    clear HL
    obtain ⟨k, lv, hk, hlk, rfl, rfl, HV⟩ := hrel
    by_cases hlt : k < l.length
    · obtain ⟨b, off, rfl, hb, hc⟩ := h.pos (by simpa using (by omega : 0 < l.length))
      have hc1 := hc k (.bool l[k]) (by simp [hlt])
      have HD := Lib.hid (List.drop_eq_getElem_cons hlt)
      clear hc
      cases hx : l[k] with
      | true =>
        rw [hx] at hc1 HD
        have HV2 := Lib.hid (show lev (lv + 1) (l.drop (k + 1)) = some 0 by have := HV.out; rw [HD.out, lev] at this; exact this)
        clear hx
        go_wp2
        go_round
        case rel => exact ⟨k + 1, lv + 1, by omega, by omega, by go_num, by go_num, HV2⟩
        case measure => simp [intOf]; omega
      | false =>
        rw [hx] at hc1 HD
        have hv := HV.out
        rw [HD.out] at hv
        cases lv with
        | zero => simp [lev] at hv
        | succ lv =>
          have HV2 := Lib.hid (show lev lv (l.drop (k + 1)) = some 0 by rw [lev] at hv; exact hv)
          clear hx hv
          go_wp2
          go_round
          case rel => exact ⟨k + 1, lv, by omega, by omega, by congr 1 <;> omega, by go_num, HV2⟩
          case measure => simp [intOf]; omega
    · have hz : lv = 0 := by
        have := HV.out
        rw [List.drop_of_length_le (by omega), lev] at this
        injection this
      have hz' : ((lv : Int) == 0) = true := by simp [hz]
      clear hz
      go_wp2
      go_ret
      exact ⟨rfl, rfl⟩

end Go.Proofs.Ytppeahlnpidheaa
