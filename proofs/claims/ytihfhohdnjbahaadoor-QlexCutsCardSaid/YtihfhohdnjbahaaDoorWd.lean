/- utf: Put, Scalar: what the program's own functions compute. -/
import Derived.Test.YtihfhohdnjbahaaDoorWa
import Derived.Test.YtihfhohdnjbahaaDoorWb
namespace Go.Proofs.YtihfhohdnjbahaaDoor
open Go.RowKit

set_option maxRecDepth 100000 in
set_option maxHeartbeats 1000000 in
theorem uput_any (c : Int) (w : World) (h0 : 0 ≤ c) (h1 : c < 2097152) :
    Calls Tryd.prog 36 #[.int .i64 c] w fun e w' => e = .returned (.string (strOfNums (putI c))) ∧ Below w.heap.size w w' := by
  have k1 := conv_1; have k2 := conv_2; have k3 := conv_3; have k4 := conv_4
  by_cases hb : c < 0 ∨ 1114111 < c ∨ (55296 ≤ c ∧ c ≤ 57343)
  · have e := Lib.hid (show strOfNums (putI c) = ⟨#[]⟩ by rw [putI, if_pos hb]; rfl)
    rcases hb with hb | hb | ⟨hb, hb'⟩
    · omega
    all_goals
      go_enter Tryd.func36, Tryd.ntmps36
      go_wp2
      go_ret
      exact ⟨ret_str (by rw [e.out]), Below.refl _ _⟩
  · have e := Lib.hid (show putI c = _ by rw [putI, if_neg hb])
    have g1 : c ≤ 1114111 := by omega
    by_cases h2 : c < 128
    · have e := Lib.hid (show putI c = _ from e.out.trans (if_pos h2))
      clear hb
      go_enter Tryd.func36, Tryd.ntmps36
      go_wp2
      go_ret
      exact ⟨ret_str (by rw [e.out]), (Below.refl _ _).alloc (Nat.le_refl _) _⟩
    · have e := Lib.hid (show putI c = _ from e.out.trans (if_neg h2))
      by_cases h3 : c < 2048
      · have e := Lib.hid (show putI c = _ from e.out.trans (if_pos h3))
        clear hb
        have e2 : bits .or .i64 192 (c / 64) = 192 + c / 64 := orI 5 _ _ (by omega) (by omega) (by omega) (by omega) (by omega) (by omega)
        have e3 : IntKind.u8.wrap (192 + c / 64) = 192 + c / 64 := by rw [IntKind.wrap_u8]; omega
        go_enter Tryd.func36, Tryd.ntmps36
        go_wp2_with (go_at_call 50; refine (utail_any _ _ (by omega) (by omega)).mono ?_; rintro e w' ⟨rfl, rfl⟩)
        go_ret
        exact ⟨ret_str (by rw [e.out]), (Below.refl _ _).alloc (Nat.le_refl _) _⟩
      · have e := Lib.hid (show putI c = _ from e.out.trans (if_neg h3))
        by_cases h4 : c < 65536
        · have e := Lib.hid (show putI c = _ from e.out.trans (if_pos h4))
          have e2 : bits .or .i64 224 (c / 4096) = 224 + c / 4096 := orI 4 _ _ (by omega) (by omega) (by omega) (by omega) (by omega) (by omega)
          have e3 : IntKind.u8.wrap (224 + c / 4096) = 224 + c / 4096 := by rw [IntKind.wrap_u8]; omega
          by_cases g2 : c < 55296
          · clear hb
            go_enter Tryd.func36, Tryd.ntmps36
            go_wp2_with (go_at_call 50; refine (utail_any _ _ (by omega) (by omega)).mono ?_; rintro e w' ⟨rfl, rfl⟩)
            go_ret
            exact ⟨ret_str (by rw [e.out]), (Below.refl _ _).alloc (Nat.le_refl _) _⟩
          · have g3 : 57343 < c := by omega
            clear hb
            go_enter Tryd.func36, Tryd.ntmps36
            go_wp2_with (go_at_call 50; refine (utail_any _ _ (by omega) (by omega)).mono ?_; rintro e w' ⟨rfl, rfl⟩)
            go_ret
            exact ⟨ret_str (by rw [e.out]), (Below.refl _ _).alloc (Nat.le_refl _) _⟩
        · have e := Lib.hid (show putI c = _ from e.out.trans (if_neg h4))
          have e2 : bits .or .i64 240 (c / 262144) = 240 + c / 262144 := orI 3 _ _ (by omega) (by omega) (by omega) (by omega) (by omega) (by omega)
          have e3 : IntKind.u8.wrap (240 + c / 262144) = 240 + c / 262144 := by rw [IntKind.wrap_u8]; omega
          have g3 : 57343 < c := by omega
          clear hb
          go_enter Tryd.func36, Tryd.ntmps36
          go_wp2_with (go_at_call 50; refine (utail_any _ _ (by omega) (by omega)).mono ?_; rintro e w' ⟨rfl, rfl⟩)
          go_ret
          exact ⟨ret_str (by rw [e.out]), (Below.refl _ _).alloc (Nat.le_refl _) _⟩

end Go.Proofs.YtihfhohdnjbahaaDoor
