/- qlex: units, char (text's closure). -/
import Derived.Test.YtihfhohdnjbahaaDoorWi
namespace Go.Proofs.YtihfhohdnjbahaaDoor
open Go.RowKit

/-- What is returned of a character. -/
def ChE (o : Option (Int × Nat)) (e : Ending) : Prop :=
  match o with
  | none => ∃ m : Int, e = .returned (.tuple #[.int .i64 (-1), .int .i64 m])
  | some (x, n) => e = .returned (.tuple #[.int .i64 x, .int .i64 (n : Nat)])
theorem ChE.no {o : Option (Int × Nat)} (h : o = none) (m : Int) : ChE o (.returned (.tuple #[.int .i64 (-1), .int .i64 m])) := by rw [h]; exact ⟨m, rfl⟩
theorem ChE.yes {o : Option (Int × Nat)} {x : Int} {n : Nat} {y m : Int} (h : o = some (x, n)) (h1 : y = x) (h2 : m = n) : ChE o (.returned (.tuple #[.int .i64 y, .int .i64 m])) := by rw [h, h1, h2]; rfl
theorem unit_at (s : ByteArray) (u : Int) (w : World) (hs : s.size ≤ 9223372036854775000) (h : Hid (uval (unitV s.data.toList) = u)) :
    Calls Tryd.prog 47 #[.string s] w fun e w' => e = .returned (.int .i64 u) ∧ w = w' := by
  rw [← h.out]; exact unit_any s w hs
set_option maxRecDepth 100000 in
set_option maxHeartbeats 2000000 in
theorem units_any (s : ByteArray) (w : World) (hs : s.size ≤ 9223372036854775000) (h2 : 2 ≤ s.size) :
    Calls Tryd.prog 33 #[.string s] w fun e w' => ChE (unitsV (dr s 2)) e ∧ w = w' := by
  have hz2 : (s.extract 2 s.size).size ≤ 9223372036854775000 := by simp; omega
  cases hu : unitV (dr s 2) with
  | none =>
    have HU := Lib.hid (show uval (unitV (s.extract 2 s.size).data.toList) = -1 by rw [ext_drop]; show uval (unitV (dr s 2)) = _; rw [hu]; rfl)
    have HE := Lib.hid (show unitsV (dr s 2) = none by unfold unitsV; rw [hu])
    clear hu
    go_enter Tryd.func33, Tryd.ntmps33
    go_wp2_with (go_at_call 47; refine (unit_at _ _ _ hz2 HU).mono ?_; rintro e w' ⟨rfl, rfl⟩)
    go_ret2
    exact ⟨ChE.no HE.out _, rfl⟩
  | some a =>
    obtain ⟨ha0, ha1⟩ := unitV_bd hu
    have hl6 := unitV_len hu
    rw [dr, List.length_drop, len_toList] at hl6
    have hs6 : 6 ≤ s.size := by omega
    clear hl6
    have HU := Lib.hid (show uval (unitV (s.extract 2 s.size).data.toList) = a by rw [ext_drop]; show uval (unitV (dr s 2)) = _; rw [hu]; rfl)
    have HX := Lib.hid (show unitsV (dr s 2) = _ by unfold unitsV; rw [hu])
    simp only [dr_dr] at HX
    clear hu
    by_cases h1 : a < 55296 ∨ 57343 < a
    · have HE := Lib.hid (HX.out.trans (if_pos h1))
      clear HX
      rcases h1 with h1 | h1
      all_goals
        go_enter Tryd.func33, Tryd.ntmps33
        go_wp2_with (go_at_call 47; refine (unit_at _ _ _ hz2 HU).mono ?_; rintro e w' ⟨rfl, rfl⟩)
        go_ret2
        exact ⟨ChE.yes HE.out rfl rfl, rfl⟩
    · have HX := Lib.hid (HX.out.trans (if_neg h1))
      by_cases h3 : 56320 ≤ a
      · have HE := Lib.hid (HX.out.trans (if_pos h3))
        have h4 : 55296 ≤ a := by omega
        have h5 : a ≤ 57343 := by omega
        clear HX h1
        go_enter Tryd.func33, Tryd.ntmps33
        go_wp2_with (go_at_call 47; refine (unit_at _ _ _ hz2 HU).mono ?_; rintro e w' ⟨rfl, rfl⟩)
        go_ret2
        exact ⟨ChE.no HE.out _, rfl⟩
      · have HX := Lib.hid (HX.out.trans (if_neg h3))
        have h4 : 55296 ≤ a := by omega
        have h5 : a ≤ 57343 := by omega
        clear h1
        have hpp : preB (s.extract 6 s.size).data.toList (⟨#[92, 117]⟩ : ByteArray).data.toList = (hd (dr s 6) 92 && hd (dr s 7) 117) := by
          rw [ext_drop]; show preB (dr s 6) [92, 117] = _; rw [preB_two, dr_dr]
        obtain ⟨q, hq⟩ : ∃ q, (hd (dr s 6) 92 && hd (dr s 7) 117) = q := ⟨_, rfl⟩
        rw [hq] at hpp
        have HP := Lib.hid hpp
        clear hpp
        cases q with
        | false =>
          have HE := Lib.hid (HX.out.trans (if_neg (by rw [show 2 + 4 = 6 from rfl, show 2 + 5 = 7 from rfl, hq]; simp)))
          clear HX hq
          go_enter Tryd.func33, Tryd.ntmps33
          go_wp2_with (first | (go_at_call 47; refine (unit_at _ _ _ hz2 HU).mono ?_; rintro e w' ⟨rfl, rfl⟩) | (go_at_call 24; refine (hp_at _ _ _ _ HP).mono ?_; rintro e w' ⟨rfl, rfl⟩))
          go_ret2
          exact ⟨ChE.no HE.out _, rfl⟩
        | true =>
          have HX := Lib.hid (HX.out.trans (if_pos (by rw [show 2 + 4 = 6 from rfl, show 2 + 5 = 7 from rfl, hq])))
          have hs8 : 8 ≤ s.size := by
            rw [Bool.and_eq_true] at hq
            have := hd_lt hq.2; omega
          have hz8 : (s.extract 8 s.size).size ≤ 9223372036854775000 := by simp; omega
          clear hq
          have HX := Lib.hid (show unitsV (dr s 2) = match unitV (dr s 8) with | none => none | some b => if 56320 ≤ b ∧ b ≤ 57343 then some (65536 + (a - 55296) * 1024 + (b - 56320), 12) else none from HX.out)
          cases hv : unitV (dr s 8) with
          | none =>
            have HE := Lib.hid (show unitsV (dr s 2) = none by rw [HX.out, hv])
            have HV := Lib.hid (show uval (unitV (s.extract 8 s.size).data.toList) = -1 by rw [ext_drop]; show uval (unitV (dr s 8)) = _; rw [hv]; rfl)
            clear HX hv
            go_enter Tryd.func33, Tryd.ntmps33
            go_wp2_with (first | (go_at_call 47; with_reducible refine (unit_at (s.extract 2 s.size) _ _ hz2 HU).mono ?_; rintro e w' ⟨rfl, rfl⟩) | (go_at_call 47; with_reducible refine (unit_at (s.extract 8 s.size) _ _ hz8 HV).mono ?_; rintro e w' ⟨rfl, rfl⟩) | (go_at_call 24; refine (hp_at _ _ _ _ HP).mono ?_; rintro e w' ⟨rfl, rfl⟩))
            go_ret2
            exact ⟨ChE.no HE.out _, rfl⟩
          | some b =>
            obtain ⟨hb0, hb1⟩ := unitV_bd hv
            have HV := Lib.hid (show uval (unitV (s.extract 8 s.size).data.toList) = b by rw [ext_drop]; show uval (unitV (dr s 8)) = _; rw [hv]; rfl)
            have HX := Lib.hid (show unitsV (dr s 2) = _ by rw [HX.out, hv])
            clear hv
            by_cases h6 : b < 56320
            · have HE := Lib.hid (HX.out.trans (if_neg (by omega)))
              clear HX
              go_enter Tryd.func33, Tryd.ntmps33
              go_wp2_with (first | (go_at_call 47; with_reducible refine (unit_at (s.extract 2 s.size) _ _ hz2 HU).mono ?_; rintro e w' ⟨rfl, rfl⟩) | (go_at_call 47; with_reducible refine (unit_at (s.extract 8 s.size) _ _ hz8 HV).mono ?_; rintro e w' ⟨rfl, rfl⟩) | (go_at_call 24; refine (hp_at _ _ _ _ HP).mono ?_; rintro e w' ⟨rfl, rfl⟩))
              go_ret2
              exact ⟨ChE.no HE.out _, rfl⟩
            · by_cases h7 : 57343 < b
              · have HE := Lib.hid (HX.out.trans (if_neg (by omega)))
                clear HX
                go_enter Tryd.func33, Tryd.ntmps33
                go_wp2_with (first | (go_at_call 47; with_reducible refine (unit_at (s.extract 2 s.size) _ _ hz2 HU).mono ?_; rintro e w' ⟨rfl, rfl⟩) | (go_at_call 47; with_reducible refine (unit_at (s.extract 8 s.size) _ _ hz8 HV).mono ?_; rintro e w' ⟨rfl, rfl⟩) | (go_at_call 24; refine (hp_at _ _ _ _ HP).mono ?_; rintro e w' ⟨rfl, rfl⟩))
                go_ret2
                exact ⟨ChE.no HE.out _, rfl⟩
              · have HE := Lib.hid (HX.out.trans (if_pos (by omega)))
                have h8 : 56320 ≤ b := by omega
                have e1 : bits .and .i64 a 1023 = a - 55296 := (bits_mask .i64 62 (by decide) wraps_i64 10 (by decide) a (by omega) (by omega)).trans (by omega)
                have e2 : bits .and .i64 b 1023 = b - 56320 := (bits_mask .i64 62 (by decide) wraps_i64 10 (by decide) b (by omega) (by omega)).trans (by omega)
                clear HX
                go_enter Tryd.func33, Tryd.ntmps33
                go_wp2_with (first | (go_at_call 47; with_reducible refine (unit_at (s.extract 2 s.size) _ _ hz2 HU).mono ?_; rintro e w' ⟨rfl, rfl⟩) | (go_at_call 47; with_reducible refine (unit_at (s.extract 8 s.size) _ _ hz8 HV).mono ?_; rintro e w' ⟨rfl, rfl⟩) | (go_at_call 24; refine (hp_at _ _ _ _ HP).mono ?_; rintro e w' ⟨rfl, rfl⟩))
                go_ret2
                exact ⟨ChE.yes HE.out rfl rfl, rfl⟩

end Go.Proofs.YtihfhohdnjbahaaDoor
