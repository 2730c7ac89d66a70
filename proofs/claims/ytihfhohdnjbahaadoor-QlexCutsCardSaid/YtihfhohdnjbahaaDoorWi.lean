/- qlex: unit, units, escaped. -/
import Derived.Test.YtihfhohdnjbahaaDoorWa
import Derived.Test.YtihfhohdnjbahaaDoorWg
namespace Go.Proofs.YtihfhohdnjbahaaDoor
open Go.RowKit

def hexs : List UInt8 := [48, 49, 50, 51, 52, 53, 54, 55, 56, 57, 97, 98, 99, 100, 101, 102]
def hexD (c : UInt8) : Int := Lib.indexByte hexs (c ||| 32)
set_option maxRecDepth 100000 in
theorem hexV_D (c : UInt8) : hexV c = if hexD c < 0 ∨ c.toNat < 48 then none else some (hexD c) :=
  all_u8 (P := fun c => hexV c = if hexD c < 0 ∨ c.toNat < 48 then none else some (hexD c)) (by decide +kernel) c
set_option maxRecDepth 100000 in
theorem hexD_bd (c : UInt8) : -1 ≤ hexD c ∧ hexD c < 16 := all_u8 (P := fun c => -1 ≤ hexD c ∧ hexD c < 16) (by decide +kernel) c
theorem or32 (c : UInt8) : (bits .or .u8 (c.toNat : Int) 32).toNat.toUInt8 = c ||| 32 := by
  have h := (bits_nat .u8 8 (by decide) wraps_u8 c.toNat 32 c.toNat_lt (by decide)).2
  rw [show ((32 : Nat) : Int) = 32 from rfl] at h
  rw [h, Int.toNat_natCast]
  apply UInt8.toNat_inj.1
  rw [UInt8.toNat_or]
  have : (c.toNat ||| 32) < 256 := Nat.or_lt_two_pow (n := 8) c.toNat_lt (by decide)
  simp [Nat.toUInt8]
theorem hex_at (c : UInt8) (d : Int) (w : World) (h : Hid (hexD c = d)) :
    Calls Tryd.prog 48 #[.string ⟨#[48, 49, 50, 51, 52, 53, 54, 55, 56, 57, 97, 98, 99, 100, 101, 102]⟩, .int .u8 (bits .or .u8 (c.toNat : Int) 32)] w fun e w' => e = .returned (.int .i64 d) ∧ w = w' := by
  rw [← h.out, hexD, ← or32]
  exact ib_any _ _ w
set_option maxRecDepth 100000 in
set_option maxHeartbeats 2000000 in
theorem unit_any (s : ByteArray) (w : World) (hs : s.size ≤ 9223372036854775000) :
    Calls Tryd.prog 47 #[.string s] w fun e w' => e = .returned (.int .i64 (uval (unitV s.data.toList))) ∧ w = w' := by
  by_cases h4 : s.size < 4
  · have HE := Lib.hid (show uval (unitV s.data.toList) = -1 by rw [unit_short _ (by rw [len_toList]; exact h4)]; rfl)
    go_enter Tryd.func47, Tryd.ntmps47
    go_wp2
    go_ret
    exact ⟨ret_int (by rw [HE.out]), rfl⟩
  · have h4' : 4 ≤ s.size := by omega
    have HU := Lib.hid (unit_hexF s.data.toList (by rw [len_toList]; exact h4'))
    clear h4
    go_enter Tryd.func47, Tryd.ntmps47
    go_wp2
    go_loop [3, 9] (fun u v => ∃ (i : Nat) (n : Int), i ≤ 4 ∧ 0 ≤ n ∧ ((i = 0 ∧ n < 1) ∨ (i = 1 ∧ n < 16) ∨ (i = 2 ∧ n < 256) ∨ (i = 3 ∧ n < 4096) ∨ (i = 4 ∧ n < 65536)) ∧ Hid (hexF 4 s.data.toList 0 = hexF (4 - i) (dr s i) n) ∧ u = .int .i64 n ∧ v = .int .i64 i) (fun _ v => 4 - (intOf v).toNat)
    case atStart => exact ⟨0, 0, by omega, by omega, .inl ⟨rfl, by omega⟩, Lib.hid rfl, rfl, rfl⟩
    case round =>
      obtain ⟨i, n, hi, hn0, hn, HF, rfl, rfl⟩ := hrel
      have HN := Lib.hid hn
      have hn1 : n < 65536 := by omega
      clear hn
      by_cases hlt : i < 4
      · have hlt2 : i < s.size := by omega
        have hbi := s[i].toNat_lt
        obtain ⟨d, hd⟩ : ∃ d, hexD s[i] = d := ⟨_, rfl⟩
        obtain ⟨hd0, hd1⟩ := hexD_bd s[i]
        rw [hd] at hd0 hd1
        have hv := hexV_D s[i]
        rw [hd] at hv
        have hstep : hexF (4 - i) (dr s i) n = match hexV s[i] with | some d => hexF (4 - (i + 1)) (dr s (i + 1)) (n * 16 + d) | none => none := by
          rw [show 4 - i = (4 - (i + 1)) + 1 by omega, show dr s i = s[i] :: dr s (i + 1) from drop_cons s i hlt2]; rfl
        have HD := Lib.hid hd
        by_cases h1 : d < 0
        · have HE := Lib.hid (show uval (unitV s.data.toList) = -1 by rw [HU.out, HF.out, hstep, hv, if_pos (.inl h1)]; rfl)
          clear hv hstep hd HF HU
          go_wp2_with (go_at_call 48; refine (hex_at _ _ _ HD).mono ?_; rintro e w' ⟨rfl, rfl⟩)
          go_ret
          exact ⟨ret_int (by rw [HE.out]), rfl⟩
        · by_cases h2 : (s[i].toNat : Int) < 48
          · have HE := Lib.hid (show uval (unitV s.data.toList) = -1 by rw [HU.out, HF.out, hstep, hv, if_pos (.inr (by omega))]; rfl)
            clear hv hstep hd HF HU
            go_wp2_with (go_at_call 48; refine (hex_at _ _ _ HD).mono ?_; rintro e w' ⟨rfl, rfl⟩)
            go_ret
            exact ⟨ret_int (by rw [HE.out]), rfl⟩
          · have HF := Lib.hid (show hexF 4 s.data.toList 0 = hexF (4 - (i + 1)) (dr s (i + 1)) (n * 16 + d) by rw [HF.out, hstep, hv, if_neg (by omega)])
            have h3 : 0 ≤ d := by omega
            have ho : bits .or .i64 (n * 16) d = n * 16 + d := orI 4 _ _ (by omega) (by omega) (by omega) h3 (by omega) (by omega)
            have HN2 := Lib.hid (show (i + 1 = 0 ∧ n * 16 + d < 1) ∨ (i + 1 = 1 ∧ n * 16 + d < 16) ∨ (i + 1 = 2 ∧ n * 16 + d < 256) ∨ (i + 1 = 3 ∧ n * 16 + d < 4096) ∨ (i + 1 = 4 ∧ n * 16 + d < 65536) by have := HN.out; omega)
            clear hv hstep hd
            go_wp2_with (go_at_call 48; refine (hex_at _ _ _ HD).mono ?_; rintro e w' ⟨rfl, rfl⟩)
            go_round
            case rel => exact ⟨i + 1, n * 16 + d, by omega, by omega, HN2.out, HF, rfl, by go_num⟩
            case measure => simp [intOf] <;> omega
      · have HE := Lib.hid (show uval (unitV s.data.toList) = n by rw [HU.out, HF.out, show 4 - i = 0 by omega]; rfl)
        go_wp2
        go_ret
        exact ⟨ret_int (by rw [HE.out]), rfl⟩

theorem esc_ib (c : UInt8) (mark : UInt8) (hm : c ≠ mark) : escV mark c = if Lib.indexByte [92, 47, 98, 102, 110, 114, 116] c < 0 then none else some ((([92, 47, 8, 12, 10, 13, 9] : List UInt8).getD (Lib.indexByte [92, 47, 98, 102, 110, 114, 116] c).toNat 0).toNat : Int) := by
  unfold escV
  rw [if_neg hm]
  exact all_u8 (P := fun c => (if c = 92 then some 92 else if c = 47 then some 47 else if c = 98 then some 8 else if c = 102 then some 12 else if c = 110 then some 10 else if c = 114 then some 13 else if c = 116 then some 9 else none) = if Lib.indexByte [92, 47, 98, 102, 110, 114, 116] c < 0 then none else some ((([92, 47, 8, 12, 10, 13, 9] : List UInt8).getD (Lib.indexByte [92, 47, 98, 102, 110, 114, 116] c).toNat 0).toNat : Int)) (by decide +kernel) c
theorem esc_bd (c : UInt8) : -1 ≤ Lib.indexByte [92, 47, 98, 102, 110, 114, 116] c ∧ Lib.indexByte [92, 47, 98, 102, 110, 114, 116] c < 7 := all_u8 (P := fun c => -1 ≤ Lib.indexByte [92, 47, 98, 102, 110, 114, 116] c ∧ Lib.indexByte [92, 47, 98, 102, 110, 114, 116] c < 7) (by decide +kernel) c
theorem escib_at (c : UInt8) (d : Int) (w : World) (h : Hid (Lib.indexByte [92, 47, 98, 102, 110, 114, 116] c = d)) :
    Calls Tryd.prog 48 #[.string ⟨#[92, 47, 98, 102, 110, 114, 116]⟩, .int .u8 (c.toNat : Int)] w fun e w' => e = .returned (.int .i64 d) ∧ w = w' := by
  rw [← h.out]
  have := ib_any ⟨#[92, 47, 98, 102, 110, 114, 116]⟩ (c.toNat : Int) w
  rw [show ((c.toNat : Int)).toNat.toUInt8 = c by simp] at this
  exact this

theorem u8_wrap (c : UInt8) (n : Int) (h : (c.toNat : Int) = n) : wrap64 (c.toNat : Int) = n := by
  have := c.toNat_lt
  rw [IntWalk.wrap64_in _ (by omega), h]

set_option maxRecDepth 100000 in
set_option maxHeartbeats 2000000 in
theorem escaped_any (c mark : UInt8) (w : World) :
    Calls Tryd.prog 34 #[.int .u8 (c.toNat : Int), .int .u8 (mark.toNat : Int)] w fun e w' => e = .returned (.int .i64 (uval (escV mark c))) ∧ w = w' := by
  have hc := c.toNat_lt
  have hmk := mark.toNat_lt
  by_cases hm : c = mark
  · have HE := Lib.hid (show uval (escV mark c) = c.toNat by unfold escV; rw [if_pos hm]; rfl)
    have hq : ((c.toNat : Int) == (mark.toNat : Int)) = true := by rw [hm]; simp
    clear hm
    go_enter Tryd.func34, Tryd.ntmps34
    go_wp2
    go_ret
    exact ⟨ret_int (by rw [HE.out]), rfl⟩
  · have hq : ((c.toNat : Int) == (mark.toNat : Int)) = false := by rw [beq_eq_false_iff_ne]; intro e; exact hm (UInt8.toNat_inj.1 (by omega))
    have he := esc_ib c mark hm
    obtain ⟨hb0, hb1⟩ := esc_bd c
    obtain ⟨d, hd⟩ : ∃ d, Lib.indexByte [92, 47, 98, 102, 110, 114, 116] c = d := ⟨_, rfl⟩
    rw [hd] at he hb0 hb1
    have HD := Lib.hid hd
    clear hd hm
    rcases (show d = -1 ∨ d = 0 ∨ d = 1 ∨ d = 2 ∨ d = 3 ∨ d = 4 ∨ d = 5 ∨ d = 6 by omega) with rfl | rfl | rfl | rfl | rfl | rfl | rfl | rfl
    all_goals
      have HE := Lib.hid he
      clear he
      go_enter Tryd.func34, Tryd.ntmps34
      go_wp2_with (go_at_call 48; refine (escib_at _ _ _ HD).mono ?_; rintro e w' ⟨rfl, rfl⟩)
      go_ret
      exact ⟨ret_int (by rw [HE.out]; first | rfl | exact u8_wrap _ _ rfl), rfl⟩

end Go.Proofs.YtihfhohdnjbahaaDoor
