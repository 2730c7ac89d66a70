/- M6: Wi, Wj joined. -/
import Derived.Test.YtmopeandckmgcaaDoorM5
namespace Go.Proofs.YtmopeandckmgcaaDoor
open Go.RowKit
/- qlex: unit, units, escaped. -/

def hexs : List UInt8 := [48, 49, 50, 51, 52, 53, 54, 55, 56, 57, 97, 98, 99, 100, 101, 102]
def hexD (c : UInt8) : Int := Lib.indexByte hexs (c ||| 32)
set_option maxRecDepth 100000 in
theorem hexV_D (c : UInt8) : hexV c = if hexD c < 0 ∨ c.toNat < 48 then none else some (hexD c) :=
  all_u8 (P := fun c => hexV c = if hexD c < 0 ∨ c.toNat < 48 then none else some (hexD c)) (by decide +kernel) c
set_option maxRecDepth 100000 in
theorem hexD_bd (c : UInt8) : -1 ≤ hexD c ∧ hexD c < 16 := all_u8 (P := fun c => -1 ≤ hexD c ∧ hexD c < 16) (by decide +kernel) c
theorem or32 (c : UInt8) : (bits .or .u8 (c.toNat : Int) 32).toNat.toUInt8 = c ||| 32 := by
  have h := (bits_nat .u8 8 (by decide) wraps_u8 c.toNat 32 c.toNat_lt (by decide)).2
  rw [show ((32 : Nat) : Int) = 32 from rfl] at h
  rw [h, Int.toNat_natCast]
  apply UInt8.toNat_inj.1
  rw [UInt8.toNat_or]
  have : (c.toNat ||| 32) < 256 := Nat.or_lt_two_pow (n := 8) c.toNat_lt (by decide)
  simp [Nat.toUInt8]
theorem hex_at (c : UInt8) (d : Int) (w : World) (h : Hid (hexD c = d)) :
    Calls Tryd.prog 68 #[.string ⟨#[48, 49, 50, 51, 52, 53, 54, 55, 56, 57, 97, 98, 99, 100, 101, 102]⟩, .int .u8 (bits .or .u8 (c.toNat : Int) 32)] w fun e w' => e = .returned (.int .i64 d) ∧ w = w' := by
  rw [← h.out, hexD, ← or32]
  exact ib_any _ _ w
set_option maxRecDepth 100000 in
set_option maxHeartbeats 2000000 in
theorem unit_any (s : ByteArray) (w : World) (hs : s.size ≤ 9223372036854775000) :
    Calls Tryd.prog 67 #[.string s] w fun e w' => e = .returned (.int .i64 (uval (unitV s.data.toList))) ∧ w = w' := by
  by_cases h4 : s.size < 4
  · have HE := Lib.hid (show uval (unitV s.data.toList) = -1 by rw [unit_short _ (by rw [len_toList]; exact h4)]; rfl)
    go_enter Tryd.func67, Tryd.ntmps67
    go_wp2
    go_ret
    exact ⟨ret_int (by rw [HE.out]), rfl⟩
  · have h4' : 4 ≤ s.size := by omega
    have HU := Lib.hid (unit_hexF s.data.toList (by rw [len_toList]; exact h4'))
    clear h4
    go_enter Tryd.func67, Tryd.ntmps67
    go_wp2
    go_loop [3, 9] (fun u v => ∃ (i : Nat) (n : Int), i ≤ 4 ∧ 0 ≤ n ∧ ((i = 0 ∧ n < 1) ∨ (i = 1 ∧ n < 16) ∨ (i = 2 ∧ n < 256) ∨ (i = 3 ∧ n < 4096) ∨ (i = 4 ∧ n < 65536)) ∧ Hid (hexF 4 s.data.toList 0 = hexF (4 - i) (dr s i) n) ∧ u = .int .i64 n ∧ v = .int .i64 i) (fun _ v => 4 - (intOf v).toNat)
    case atStart => exact ⟨0, 0, by omega, by omega, .inl ⟨rfl, by omega⟩, Lib.hid rfl, rfl, rfl⟩
    case round =>
      obtain ⟨i, n, hi, hn0, hn, HF, rfl, rfl⟩ := hrel
      have HN := Lib.hid hn
      have hn1 : n < 65536 := by omega
      clear hn
      by_cases hlt : i < 4
      · have hlt2 : i < s.size := by omega
        have hbi := s[i].toNat_lt
        obtain ⟨d, hd⟩ : ∃ d, hexD s[i] = d := ⟨_, rfl⟩
        obtain ⟨hd0, hd1⟩ := hexD_bd s[i]
        rw [hd] at hd0 hd1
        have hv := hexV_D s[i]
        rw [hd] at hv
        have hstep : hexF (4 - i) (dr s i) n = match hexV s[i] with | some d => hexF (4 - (i + 1)) (dr s (i + 1)) (n * 16 + d) | none => none := by
          rw [show 4 - i = (4 - (i + 1)) + 1 by omega, show dr s i = s[i] :: dr s (i + 1) from drop_cons s i hlt2]; rfl
        have HD := Lib.hid hd
        by_cases h1 : d < 0
        · have HE := Lib.hid (show uval (unitV s.data.toList) = -1 by rw [HU.out, HF.out, hstep, hv, if_pos (.inl h1)]; rfl)
          clear hv hstep hd HF HU
          go_wp2_with (go_at_call 68; refine (hex_at _ _ _ HD).mono ?_; rintro e w' ⟨rfl, rfl⟩)
          go_ret
          exact ⟨ret_int (by rw [HE.out]), rfl⟩
        · by_cases h2 : (s[i].toNat : Int) < 48
          · have HE := Lib.hid (show uval (unitV s.data.toList) = -1 by rw [HU.out, HF.out, hstep, hv, if_pos (.inr (by omega))]; rfl)
            clear hv hstep hd HF HU
            go_wp2_with (go_at_call 68; refine (hex_at _ _ _ HD).mono ?_; rintro e w' ⟨rfl, rfl⟩)
            go_ret
            exact ⟨ret_int (by rw [HE.out]), rfl⟩
          · have HF := Lib.hid (show hexF 4 s.data.toList 0 = hexF (4 - (i + 1)) (dr s (i + 1)) (n * 16 + d) by rw [HF.out, hstep, hv, if_neg (by omega)])
            have h3 : 0 ≤ d := by omega
            have ho : bits .or .i64 (n * 16) d = n * 16 + d := orI 4 _ _ (by omega) (by omega) (by omega) h3 (by omega) (by omega)
            have HN2 := Lib.hid (show (i + 1 = 0 ∧ n * 16 + d < 1) ∨ (i + 1 = 1 ∧ n * 16 + d < 16) ∨ (i + 1 = 2 ∧ n * 16 + d < 256) ∨ (i + 1 = 3 ∧ n * 16 + d < 4096) ∨ (i + 1 = 4 ∧ n * 16 + d < 65536) by have := HN.out; omega)
            clear hv hstep hd
            go_wp2_with (go_at_call 68; refine (hex_at _ _ _ HD).mono ?_; rintro e w' ⟨rfl, rfl⟩)
            go_round
            case rel => exact ⟨i + 1, n * 16 + d, by omega, by omega, HN2.out, HF, rfl, by go_num⟩
            case measure => simp [intOf] <;> omega
      · have HE := Lib.hid (show uval (unitV s.data.toList) = n by rw [HU.out, HF.out, show 4 - i = 0 by omega]; rfl)
        go_wp2
        go_ret
        exact ⟨ret_int (by rw [HE.out]), rfl⟩

theorem esc_ib (c : UInt8) (mark : UInt8) (hm : c ≠ mark) : escV mark c = if Lib.indexByte [92, 47, 98, 102, 110, 114, 116] c < 0 then none else some ((([92, 47, 8, 12, 10, 13, 9] : List UInt8).getD (Lib.indexByte [92, 47, 98, 102, 110, 114, 116] c).toNat 0).toNat : Int) := by
  unfold escV
  rw [if_neg hm]
  exact all_u8 (P := fun c => (if c = 92 then some 92 else if c = 47 then some 47 else if c = 98 then some 8 else if c = 102 then some 12 else if c = 110 then some 10 else if c = 114 then some 13 else if c = 116 then some 9 else none) = if Lib.indexByte [92, 47, 98, 102, 110, 114, 116] c < 0 then none else some ((([92, 47, 8, 12, 10, 13, 9] : List UInt8).getD (Lib.indexByte [92, 47, 98, 102, 110, 114, 116] c).toNat 0).toNat : Int)) (by decide +kernel) c
theorem esc_bd (c : UInt8) : -1 ≤ Lib.indexByte [92, 47, 98, 102, 110, 114, 116] c ∧ Lib.indexByte [92, 47, 98, 102, 110, 114, 116] c < 7 := all_u8 (P := fun c => -1 ≤ Lib.indexByte [92, 47, 98, 102, 110, 114, 116] c ∧ Lib.indexByte [92, 47, 98, 102, 110, 114, 116] c < 7) (by decide +kernel) c
theorem escib_at (c : UInt8) (d : Int) (w : World) (h : Hid (Lib.indexByte [92, 47, 98, 102, 110, 114, 116] c = d)) :
    Calls Tryd.prog 68 #[.string ⟨#[92, 47, 98, 102, 110, 114, 116]⟩, .int .u8 (c.toNat : Int)] w fun e w' => e = .returned (.int .i64 d) ∧ w = w' := by
  rw [← h.out]
  have := ib_any ⟨#[92, 47, 98, 102, 110, 114, 116]⟩ (c.toNat : Int) w
  rw [show ((c.toNat : Int)).toNat.toUInt8 = c by simp] at this
  exact this

theorem u8_wrap (c : UInt8) (n : Int) (h : (c.toNat : Int) = n) : wrap64 (c.toNat : Int) = n := by
  have := c.toNat_lt
  rw [IntWalk.wrap64_in _ (by omega), h]

set_option maxRecDepth 100000 in
set_option maxHeartbeats 2000000 in
theorem escaped_any (c mark : UInt8) (w : World) :
    Calls Tryd.prog 54 #[.int .u8 (c.toNat : Int), .int .u8 (mark.toNat : Int)] w fun e w' => e = .returned (.int .i64 (uval (escV mark c))) ∧ w = w' := by
  have hc := c.toNat_lt
  have hmk := mark.toNat_lt
  by_cases hm : c = mark
  · have HE := Lib.hid (show uval (escV mark c) = c.toNat by unfold escV; rw [if_pos hm]; rfl)
    have hq : ((c.toNat : Int) == (mark.toNat : Int)) = true := by rw [hm]; simp
    clear hm
    go_enter Tryd.func54, Tryd.ntmps54
    go_wp2
    go_ret
    exact ⟨ret_int (by rw [HE.out]), rfl⟩
  · have hq : ((c.toNat : Int) == (mark.toNat : Int)) = false := by rw [beq_eq_false_iff_ne]; intro e; exact hm (UInt8.toNat_inj.1 (by omega))
    have he := esc_ib c mark hm
    obtain ⟨hb0, hb1⟩ := esc_bd c
    obtain ⟨d, hd⟩ : ∃ d, Lib.indexByte [92, 47, 98, 102, 110, 114, 116] c = d := ⟨_, rfl⟩
    rw [hd] at he hb0 hb1
    have HD := Lib.hid hd
    clear hd hm
    rcases (show d = -1 ∨ d = 0 ∨ d = 1 ∨ d = 2 ∨ d = 3 ∨ d = 4 ∨ d = 5 ∨ d = 6 by omega) with rfl | rfl | rfl | rfl | rfl | rfl | rfl | rfl
    all_goals
      have HE := Lib.hid he
      clear he
      go_enter Tryd.func54, Tryd.ntmps54
      go_wp2_with (go_at_call 68; refine (escib_at _ _ _ HD).mono ?_; rintro e w' ⟨rfl, rfl⟩)
      go_ret
      exact ⟨ret_int (by rw [HE.out]; first | rfl | exact u8_wrap _ _ rfl), rfl⟩

/- qlex: units, char (text's closure). -/

/-- What is returned of a character. -/
def ChE (o : Option (Int × Nat)) (e : Ending) : Prop :=
  match o with
  | none => ∃ m : Int, e = .returned (.tuple #[.int .i64 (-1), .int .i64 m])
  | some (x, n) => e = .returned (.tuple #[.int .i64 x, .int .i64 (n : Nat)])
theorem ChE.no {o : Option (Int × Nat)} (h : o = none) (m : Int) : ChE o (.returned (.tuple #[.int .i64 (-1), .int .i64 m])) := by rw [h]; exact ⟨m, rfl⟩
theorem ChE.yes {o : Option (Int × Nat)} {x : Int} {n : Nat} {y m : Int} (h : o = some (x, n)) (h1 : y = x) (h2 : m = n) : ChE o (.returned (.tuple #[.int .i64 y, .int .i64 m])) := by rw [h, h1, h2]; rfl
theorem unit_at (s : ByteArray) (u : Int) (w : World) (hs : s.size ≤ 9223372036854775000) (h : Hid (uval (unitV s.data.toList) = u)) :
    Calls Tryd.prog 67 #[.string s] w fun e w' => e = .returned (.int .i64 u) ∧ w = w' := by
  rw [← h.out]; exact unit_any s w hs
set_option maxRecDepth 100000 in
set_option maxHeartbeats 2000000 in
theorem units_any (s : ByteArray) (w : World) (hs : s.size ≤ 9223372036854775000) (h2 : 2 ≤ s.size) :
    Calls Tryd.prog 53 #[.string s] w fun e w' => ChE (unitsV (dr s 2)) e ∧ w = w' := by
  have hz2 : (s.extract 2 s.size).size ≤ 9223372036854775000 := by simp; omega
  cases hu : unitV (dr s 2) with
  | none =>
    have HU := Lib.hid (show uval (unitV (s.extract 2 s.size).data.toList) = -1 by rw [ext_drop]; show uval (unitV (dr s 2)) = _; rw [hu]; rfl)
    have HE := Lib.hid (show unitsV (dr s 2) = none by unfold unitsV; rw [hu])
    clear hu
    go_enter Tryd.func53, Tryd.ntmps53
    go_wp2_with (go_at_call 67; refine (unit_at _ _ _ hz2 HU).mono ?_; rintro e w' ⟨rfl, rfl⟩)
    go_ret2
    exact ⟨ChE.no HE.out _, rfl⟩
  | some a =>
    obtain ⟨ha0, ha1⟩ := unitV_bd hu
    have hl6 := unitV_len hu
    rw [dr, List.length_drop, len_toList] at hl6
    have hs6 : 6 ≤ s.size := by omega
    clear hl6
    have HU := Lib.hid (show uval (unitV (s.extract 2 s.size).data.toList) = a by rw [ext_drop]; show uval (unitV (dr s 2)) = _; rw [hu]; rfl)
    have HX := Lib.hid (show unitsV (dr s 2) = _ by unfold unitsV; rw [hu])
    simp only [dr_dr] at HX
    clear hu
    by_cases h1 : a < 55296 ∨ 57343 < a
    · have HE := Lib.hid (HX.out.trans (if_pos h1))
      clear HX
      rcases h1 with h1 | h1
      all_goals
        go_enter Tryd.func53, Tryd.ntmps53
        go_wp2_with (go_at_call 67; refine (unit_at _ _ _ hz2 HU).mono ?_; rintro e w' ⟨rfl, rfl⟩)
        go_ret2
        exact ⟨ChE.yes HE.out rfl rfl, rfl⟩
    · have HX := Lib.hid (HX.out.trans (if_neg h1))
      by_cases h3 : 56320 ≤ a
      · have HE := Lib.hid (HX.out.trans (if_pos h3))
        have h4 : 55296 ≤ a := by omega
        have h5 : a ≤ 57343 := by omega
        clear HX h1
        go_enter Tryd.func53, Tryd.ntmps53
        go_wp2_with (go_at_call 67; refine (unit_at _ _ _ hz2 HU).mono ?_; rintro e w' ⟨rfl, rfl⟩)
        go_ret2
        exact ⟨ChE.no HE.out _, rfl⟩
      · have HX := Lib.hid (HX.out.trans (if_neg h3))
        have h4 : 55296 ≤ a := by omega
        have h5 : a ≤ 57343 := by omega
        clear h1
        have hpp : preB (s.extract 6 s.size).data.toList (⟨#[92, 117]⟩ : ByteArray).data.toList = (hd (dr s 6) 92 && hd (dr s 7) 117) := by
          rw [ext_drop]; show preB (dr s 6) [92, 117] = _; rw [preB_two, dr_dr]
        obtain ⟨q, hq⟩ : ∃ q, (hd (dr s 6) 92 && hd (dr s 7) 117) = q := ⟨_, rfl⟩
        rw [hq] at hpp
        have HP := Lib.hid hpp
        clear hpp
        cases q with
        | false =>
          have HE := Lib.hid (HX.out.trans (if_neg (by rw [show 2 + 4 = 6 from rfl, show 2 + 5 = 7 from rfl, hq]; simp)))
          clear HX hq
          go_enter Tryd.func53, Tryd.ntmps53
          go_wp2_with (first | (go_at_call 67; refine (unit_at _ _ _ hz2 HU).mono ?_; rintro e w' ⟨rfl, rfl⟩) | (go_at_call 42; refine (hp_at _ _ _ _ HP).mono ?_; rintro e w' ⟨rfl, rfl⟩))
          go_ret2
          exact ⟨ChE.no HE.out _, rfl⟩
        | true =>
          have HX := Lib.hid (HX.out.trans (if_pos (by rw [show 2 + 4 = 6 from rfl, show 2 + 5 = 7 from rfl, hq])))
          have hs8 : 8 ≤ s.size := by
            rw [Bool.and_eq_true] at hq
            have := hd_lt hq.2; omega
          have hz8 : (s.extract 8 s.size).size ≤ 9223372036854775000 := by simp; omega
          clear hq
          have HX := Lib.hid (show unitsV (dr s 2) = match unitV (dr s 8) with | none => none | some b => if 56320 ≤ b ∧ b ≤ 57343 then some (65536 + (a - 55296) * 1024 + (b - 56320), 12) else none from HX.out)
          cases hv : unitV (dr s 8) with
          | none =>
            have HE := Lib.hid (show unitsV (dr s 2) = none by rw [HX.out, hv])
            have HV := Lib.hid (show uval (unitV (s.extract 8 s.size).data.toList) = -1 by rw [ext_drop]; show uval (unitV (dr s 8)) = _; rw [hv]; rfl)
            clear HX hv
            go_enter Tryd.func53, Tryd.ntmps53
            go_wp2_with (first | (go_at_call 67; with_reducible refine (unit_at (s.extract 2 s.size) _ _ hz2 HU).mono ?_; rintro e w' ⟨rfl, rfl⟩) | (go_at_call 67; with_reducible refine (unit_at (s.extract 8 s.size) _ _ hz8 HV).mono ?_; rintro e w' ⟨rfl, rfl⟩) | (go_at_call 42; refine (hp_at _ _ _ _ HP).mono ?_; rintro e w' ⟨rfl, rfl⟩))
            go_ret2
            exact ⟨ChE.no HE.out _, rfl⟩
          | some b =>
            obtain ⟨hb0, hb1⟩ := unitV_bd hv
            have HV := Lib.hid (show uval (unitV (s.extract 8 s.size).data.toList) = b by rw [ext_drop]; show uval (unitV (dr s 8)) = _; rw [hv]; rfl)
            have HX := Lib.hid (show unitsV (dr s 2) = _ by rw [HX.out, hv])
            clear hv
            by_cases h6 : b < 56320
            · have HE := Lib.hid (HX.out.trans (if_neg (by omega)))
              clear HX
              go_enter Tryd.func53, Tryd.ntmps53
              go_wp2_with (first | (go_at_call 67; with_reducible refine (unit_at (s.extract 2 s.size) _ _ hz2 HU).mono ?_; rintro e w' ⟨rfl, rfl⟩) | (go_at_call 67; with_reducible refine (unit_at (s.extract 8 s.size) _ _ hz8 HV).mono ?_; rintro e w' ⟨rfl, rfl⟩) | (go_at_call 42; refine (hp_at _ _ _ _ HP).mono ?_; rintro e w' ⟨rfl, rfl⟩))
              go_ret2
              exact ⟨ChE.no HE.out _, rfl⟩
            · by_cases h7 : 57343 < b
              · have HE := Lib.hid (HX.out.trans (if_neg (by omega)))
                clear HX
                go_enter Tryd.func53, Tryd.ntmps53
                go_wp2_with (first | (go_at_call 67; with_reducible refine (unit_at (s.extract 2 s.size) _ _ hz2 HU).mono ?_; rintro e w' ⟨rfl, rfl⟩) | (go_at_call 67; with_reducible refine (unit_at (s.extract 8 s.size) _ _ hz8 HV).mono ?_; rintro e w' ⟨rfl, rfl⟩) | (go_at_call 42; refine (hp_at _ _ _ _ HP).mono ?_; rintro e w' ⟨rfl, rfl⟩))
                go_ret2
                exact ⟨ChE.no HE.out _, rfl⟩
              · have HE := Lib.hid (HX.out.trans (if_pos (by omega)))
                have h8 : 56320 ≤ b := by omega
                have e1 : bits .and .i64 a 1023 = a - 55296 := (bits_mask .i64 62 (by decide) wraps_i64 10 (by decide) a (by omega) (by omega)).trans (by omega)
                have e2 : bits .and .i64 b 1023 = b - 56320 := (bits_mask .i64 62 (by decide) wraps_i64 10 (by decide) b (by omega) (by omega)).trans (by omega)
                clear HX
                go_enter Tryd.func53, Tryd.ntmps53
                go_wp2_with (first | (go_at_call 67; with_reducible refine (unit_at (s.extract 2 s.size) _ _ hz2 HU).mono ?_; rintro e w' ⟨rfl, rfl⟩) | (go_at_call 67; with_reducible refine (unit_at (s.extract 8 s.size) _ _ hz8 HV).mono ?_; rintro e w' ⟨rfl, rfl⟩) | (go_at_call 42; refine (hp_at _ _ _ _ HP).mono ?_; rintro e w' ⟨rfl, rfl⟩))
                go_ret2
                exact ⟨ChE.yes HE.out rfl rfl, rfl⟩


end Go.Proofs.YtmopeandckmgcaaDoor
