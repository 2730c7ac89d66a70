/- G25: Wj, Wb, Wd joined. -/
import Derived.Laws.BytesArg
import Derived.Test.YtpcbcodmocmilaaGreatDoorG24
import Derived.Test.YtpcbcodmocmilaaGreatDoorUp
namespace Go.Proofs.YtpcbcodmocmilaaGreatDoor
open Go.RowKit
/- qlex: units, char (text's closure). -/
section
open Go.RowKit

/-- What is returned of a character. -/
def ChE (o : Option (Int × Nat)) (e : Ending) : Prop :=
  match o with
  | none => ∃ m : Int, e = .returned (.tuple #[.int .i64 (-1), .int .i64 m])
  | some (x, n) => e = .returned (.tuple #[.int .i64 x, .int .i64 (n : Nat)])
theorem ChE.no {o : Option (Int × Nat)} (h : o = none) (m : Int) : ChE o (.returned (.tuple #[.int .i64 (-1), .int .i64 m])) := by rw [h]; exact ⟨m, rfl⟩
theorem ChE.yes {o : Option (Int × Nat)} {x : Int} {n : Nat} {y m : Int} (h : o = some (x, n)) (h1 : y = x) (h2 : m = n) : ChE o (.returned (.tuple #[.int .i64 y, .int .i64 m])) := by rw [h, h1, h2]; rfl
theorem unit_at (s : ByteArray) (u : Int) (w : World) (hs : s.size ≤ 9223372036854775000) (h : Hid (uval (unitV s.data.toList) = u)) :
    Calls Tryz.prog 119 #[.string s] w fun e w' => e = .returned (.int .i64 u) ∧ w = w' := by
  rw [← h.out]; exact unit_any s w hs
set_option maxRecDepth 100000 in
set_option maxHeartbeats 2000000 in
theorem units_any (s : ByteArray) (w : World) (hs : s.size ≤ 9223372036854775000) (h2 : 2 ≤ s.size) :
    Calls Tryz.prog 98 #[.string s] w fun e w' => ChE (unitsV (dr s 2)) e ∧ w = w' := by
  have hz2 : (s.extract 2 s.size).size ≤ 9223372036854775000 := by simp; omega
  cases hu : unitV (dr s 2) with
  | none =>
    have HU := Lib.hid (show uval (unitV (s.extract 2 s.size).data.toList) = -1 by rw [ext_drop]; show uval (unitV (dr s 2)) = _; rw [hu]; rfl)
    have HE := Lib.hid (show unitsV (dr s 2) = none by unfold unitsV; rw [hu])
    clear hu
    go_enter Tryz.func98, Tryz.ntmps98
    go_wp2_with (go_at_call 119; refine (unit_at _ _ _ hz2 HU).mono ?_; rintro e w' ⟨rfl, rfl⟩)
    go_ret2
    exact ⟨ChE.no HE.out _, rfl⟩
  | some a =>
    obtain ⟨ha0, ha1⟩ := unitV_bd hu
    have hl6 := unitV_len hu
    rw [dr, List.length_drop, len_toList] at hl6
    have hs6 : 6 ≤ s.size := by omega
    clear hl6
    have HU := Lib.hid (show uval (unitV (s.extract 2 s.size).data.toList) = a by rw [ext_drop]; show uval (unitV (dr s 2)) = _; rw [hu]; rfl)
    have HX := Lib.hid (show unitsV (dr s 2) = _ by unfold unitsV; rw [hu])
    simp only [dr_dr] at HX
    clear hu
    by_cases h1 : a < 55296 ∨ 57343 < a
    · have HE := Lib.hid (HX.out.trans (if_pos h1))
      clear HX
      rcases h1 with h1 | h1
      all_goals
        go_enter Tryz.func98, Tryz.ntmps98
        go_wp2_with (go_at_call 119; refine (unit_at _ _ _ hz2 HU).mono ?_; rintro e w' ⟨rfl, rfl⟩)
        go_ret2
        exact ⟨ChE.yes HE.out rfl rfl, rfl⟩
    · have HX := Lib.hid (HX.out.trans (if_neg h1))
      by_cases h3 : 56320 ≤ a
      · have HE := Lib.hid (HX.out.trans (if_pos h3))
        have h4 : 55296 ≤ a := by omega
        have h5 : a ≤ 57343 := by omega
        clear HX h1
        go_enter Tryz.func98, Tryz.ntmps98
        go_wp2_with (go_at_call 119; refine (unit_at _ _ _ hz2 HU).mono ?_; rintro e w' ⟨rfl, rfl⟩)
        go_ret2
        exact ⟨ChE.no HE.out _, rfl⟩
      · have HX := Lib.hid (HX.out.trans (if_neg h3))
        have h4 : 55296 ≤ a := by omega
        have h5 : a ≤ 57343 := by omega
        clear h1
        have hpp : preB (s.extract 6 s.size).data.toList (⟨#[92, 117]⟩ : ByteArray).data.toList = (hd (dr s 6) 92 && hd (dr s 7) 117) := by
          rw [ext_drop]; show preB (dr s 6) [92, 117] = _; rw [preB_two, dr_dr]
        obtain ⟨q, hq⟩ : ∃ q, (hd (dr s 6) 92 && hd (dr s 7) 117) = q := ⟨_, rfl⟩
        rw [hq] at hpp
        have HP := Lib.hid hpp
        clear hpp
        cases q with
        | false =>
          have HE := Lib.hid (HX.out.trans (if_neg (by rw [show 2 + 4 = 6 from rfl, show 2 + 5 = 7 from rfl, hq]; simp)))
          clear HX hq
          go_enter Tryz.func98, Tryz.ntmps98
          go_wp2_with (first | (go_at_call 119; refine (unit_at _ _ _ hz2 HU).mono ?_; rintro e w' ⟨rfl, rfl⟩) | (go_at_call 78; refine (hp_at _ _ _ _ HP).mono ?_; rintro e w' ⟨rfl, rfl⟩))
          go_ret2
          exact ⟨ChE.no HE.out _, rfl⟩
        | true =>
          have HX := Lib.hid (HX.out.trans (if_pos (by rw [show 2 + 4 = 6 from rfl, show 2 + 5 = 7 from rfl, hq])))
          have hs8 : 8 ≤ s.size := by
            rw [Bool.and_eq_true] at hq
            have := hd_lt hq.2; omega
          have hz8 : (s.extract 8 s.size).size ≤ 9223372036854775000 := by simp; omega
          clear hq
          have HX := Lib.hid (show unitsV (dr s 2) = match unitV (dr s 8) with | none => none | some b => if 56320 ≤ b ∧ b ≤ 57343 then some (65536 + (a - 55296) * 1024 + (b - 56320), 12) else none from HX.out)
          cases hv : unitV (dr s 8) with
          | none =>
            have HE := Lib.hid (show unitsV (dr s 2) = none by rw [HX.out, hv])
            have HV := Lib.hid (show uval (unitV (s.extract 8 s.size).data.toList) = -1 by rw [ext_drop]; show uval (unitV (dr s 8)) = _; rw [hv]; rfl)
            clear HX hv
            go_enter Tryz.func98, Tryz.ntmps98
            go_wp2_with (first | (go_at_call 119; with_reducible refine (unit_at (s.extract 2 s.size) _ _ hz2 HU).mono ?_; rintro e w' ⟨rfl, rfl⟩) | (go_at_call 119; with_reducible refine (unit_at (s.extract 8 s.size) _ _ hz8 HV).mono ?_; rintro e w' ⟨rfl, rfl⟩) | (go_at_call 78; refine (hp_at _ _ _ _ HP).mono ?_; rintro e w' ⟨rfl, rfl⟩))
            go_ret2
            exact ⟨ChE.no HE.out _, rfl⟩
          | some b =>
            obtain ⟨hb0, hb1⟩ := unitV_bd hv
            have HV := Lib.hid (show uval (unitV (s.extract 8 s.size).data.toList) = b by rw [ext_drop]; show uval (unitV (dr s 8)) = _; rw [hv]; rfl)
            have HX := Lib.hid (show unitsV (dr s 2) = _ by rw [HX.out, hv])
            clear hv
            by_cases h6 : b < 56320
            · have HE := Lib.hid (HX.out.trans (if_neg (by omega)))
              clear HX
              go_enter Tryz.func98, Tryz.ntmps98
              go_wp2_with (first | (go_at_call 119; with_reducible refine (unit_at (s.extract 2 s.size) _ _ hz2 HU).mono ?_; rintro e w' ⟨rfl, rfl⟩) | (go_at_call 119; with_reducible refine (unit_at (s.extract 8 s.size) _ _ hz8 HV).mono ?_; rintro e w' ⟨rfl, rfl⟩) | (go_at_call 78; refine (hp_at _ _ _ _ HP).mono ?_; rintro e w' ⟨rfl, rfl⟩))
              go_ret2
              exact ⟨ChE.no HE.out _, rfl⟩
            · by_cases h7 : 57343 < b
              · have HE := Lib.hid (HX.out.trans (if_neg (by omega)))
                clear HX
                go_enter Tryz.func98, Tryz.ntmps98
                go_wp2_with (first | (go_at_call 119; with_reducible refine (unit_at (s.extract 2 s.size) _ _ hz2 HU).mono ?_; rintro e w' ⟨rfl, rfl⟩) | (go_at_call 119; with_reducible refine (unit_at (s.extract 8 s.size) _ _ hz8 HV).mono ?_; rintro e w' ⟨rfl, rfl⟩) | (go_at_call 78; refine (hp_at _ _ _ _ HP).mono ?_; rintro e w' ⟨rfl, rfl⟩))
                go_ret2
                exact ⟨ChE.no HE.out _, rfl⟩
              · have HE := Lib.hid (HX.out.trans (if_pos (by omega)))
                have h8 : 56320 ≤ b := by omega
                have e1 : bits .and .i64 a 1023 = a - 55296 := (bits_mask .i64 62 (by decide) wraps_i64 10 (by decide) a (by omega) (by omega)).trans (by omega)
                have e2 : bits .and .i64 b 1023 = b - 56320 := (bits_mask .i64 62 (by decide) wraps_i64 10 (by decide) b (by omega) (by omega)).trans (by omega)
                clear HX
                go_enter Tryz.func98, Tryz.ntmps98
                go_wp2_with (first | (go_at_call 119; with_reducible refine (unit_at (s.extract 2 s.size) _ _ hz2 HU).mono ?_; rintro e w' ⟨rfl, rfl⟩) | (go_at_call 119; with_reducible refine (unit_at (s.extract 8 s.size) _ _ hz8 HV).mono ?_; rintro e w' ⟨rfl, rfl⟩) | (go_at_call 78; refine (hp_at _ _ _ _ HP).mono ?_; rintro e w' ⟨rfl, rfl⟩))
                go_ret2
                exact ⟨ChE.yes HE.out rfl rfl, rfl⟩

end
/- ref09: Put (as Ka, over A0). -/
section
open Go.RowKit

theorem conv_new (w : World) (xs : List Int) (n c : Nat) (t : TypeId) (m : Nat × Nat) (hn : xs.length = n) :
    (convert 78 9 (.slice (some ⟨w.heap.size, 0, none⟩) n c)).run Tryz.prog (w.alloc (.cells (xs.map (Value.int .u8)).toArray t m)) = .ok (.string (strOfNums xs)) (w.alloc (.cells (xs.map (Value.int .u8)).toArray t m)) :=
  run_convert_bytes_arg (P := Tryz.prog) _ 78 5 Tryz.underlying78 Tryz.underlying5 w.heap.size 0 n c xs hn (fun i hi => by
    rw [Nat.zero_add, World.cell?_alloc_mark]
    simp [List.getD, List.getElem?_eq_getElem (show i < xs.length by omega)]) 9 Tryz.underlying9
theorem conv_1 (w : World) (a : Int) : (convert 78 9 (.slice (some ⟨w.heap.size, 0, none⟩) 1 1)).run Tryz.prog (w.alloc (.cells #[.int .u8 a] 5)) = .ok (.string (strOfNums [a])) (w.alloc (.cells #[.int .u8 a] 5)) := conv_new w [a] 1 1 _ _ rfl
theorem conv_2 (w : World) (a b : Int) : (convert 78 9 (.slice (some ⟨w.heap.size, 0, none⟩) 2 2)).run Tryz.prog (w.alloc (.cells #[.int .u8 a, .int .u8 b] 5)) = .ok (.string (strOfNums [a, b])) (w.alloc (.cells #[.int .u8 a, .int .u8 b] 5)) := conv_new w [a, b] 2 2 _ _ rfl
theorem conv_3 (w : World) (a b c : Int) : (convert 78 9 (.slice (some ⟨w.heap.size, 0, none⟩) 3 3)).run Tryz.prog (w.alloc (.cells #[.int .u8 a, .int .u8 b, .int .u8 c] 5)) = .ok (.string (strOfNums [a, b, c])) (w.alloc (.cells #[.int .u8 a, .int .u8 b, .int .u8 c] 5)) := conv_new w [a, b, c] 3 3 _ _ rfl
theorem conv_4 (w : World) (a b c d : Int) : (convert 78 9 (.slice (some ⟨w.heap.size, 0, none⟩) 4 4)).run Tryz.prog (w.alloc (.cells #[.int .u8 a, .int .u8 b, .int .u8 c, .int .u8 d] 5)) = .ok (.string (strOfNums [a, b, c, d])) (w.alloc (.cells #[.int .u8 a, .int .u8 b, .int .u8 c, .int .u8 d] 5)) := conv_new w [a, b, c, d] 4 4 _ _ rfl

set_option maxHeartbeats 1000000 in
theorem put_any (c : Int) (w : World) (h0 : 0 ≤ c) (h1 : c < 2097152) :
    Calls Tryz.prog 59 #[.int .i64 c] w fun e w' => e = .returned (.string (strOfNums (putI c))) ∧ Below w.heap.size w w' := by
  have k1 := conv_1; have k2 := conv_2; have k3 := conv_3; have k4 := conv_4
  by_cases hb : c < 0 ∨ 1114111 < c ∨ (55296 ≤ c ∧ c ≤ 57343)
  · have e := Lib.hid (show strOfNums (putI c) = ⟨#[]⟩ by rw [putI, if_pos hb]; rfl)
    rcases hb with hb | hb | ⟨hb, hb'⟩
    · omega
    all_goals
      go_enter Tryz.func59, Tryz.ntmps59
      go_wp2
      go_ret
      exact ⟨ret_str (by rw [e.out]), Below.refl _ _⟩
  · have e := Lib.hid (show putI c = _ by rw [putI, if_neg hb])
    have g1 : c ≤ 1114111 := by omega
    by_cases g2 : c < 55296
    · clear hb
      by_cases h2 : c < 128
      · have e := Lib.hid (show putI c = _ from e.out.trans (if_pos h2))
        go_enter Tryz.func59, Tryz.ntmps59
        go_wp2
        go_ret
        exact ⟨ret_str (by rw [e.out]), (Below.refl _ _).alloc (Nat.le_refl _) _⟩
      · have e := Lib.hid (show putI c = _ from e.out.trans (if_neg h2))
        by_cases h3 : c < 2048
        · have e := Lib.hid (show putI c = _ from e.out.trans (if_pos h3))
          go_enter Tryz.func59, Tryz.ntmps59
          go_wp2
          go_ret
          exact ⟨ret_str (by rw [e.out]), (Below.refl _ _).alloc (Nat.le_refl _) _⟩
        · have e := Lib.hid (show putI c = _ from e.out.trans (if_neg h3))
          have e := Lib.hid (show putI c = _ from e.out.trans (if_pos (by omega)))
          go_enter Tryz.func59, Tryz.ntmps59
          go_wp2
          go_ret
          exact ⟨ret_str (by rw [e.out]), (Below.refl _ _).alloc (Nat.le_refl _) _⟩
    · have g3 : 57343 < c := by omega
      clear hb
      have e := Lib.hid (show putI c = _ from e.out.trans (if_neg (by omega)))
      have e := Lib.hid (show putI c = _ from e.out.trans (if_neg (by omega)))
      by_cases h4 : c < 65536
      · have e := Lib.hid (show putI c = _ from e.out.trans (if_pos h4))
        go_enter Tryz.func59, Tryz.ntmps59
        go_wp2
        go_ret
        exact ⟨ret_str (by rw [e.out]), (Below.refl _ _).alloc (Nat.le_refl _) _⟩
      · have e := Lib.hid (show putI c = _ from e.out.trans (if_neg h4))
        go_enter Tryz.func59, Tryz.ntmps59
        go_wp2
        go_ret
        exact ⟨ret_str (by rw [e.out]), (Below.refl _ _).alloc (Nat.le_refl _) _⟩

end
/- utf: Put, Scalar: what the program's own functions compute. -/
section
open Go.RowKit

set_option maxRecDepth 100000 in
set_option maxHeartbeats 1000000 in
theorem uput_any (c : Int) (w : World) (h0 : 0 ≤ c) (h1 : c < 2097152) :
    Calls Tryz.prog 100 #[.int .i64 c] w fun e w' => e = .returned (.string (strOfNums (putI c))) ∧ Below w.heap.size w w' := by
  have k1 := conv_1; have k2 := conv_2; have k3 := conv_3; have k4 := conv_4
  by_cases hb : c < 0 ∨ 1114111 < c ∨ (55296 ≤ c ∧ c ≤ 57343)
  · have e := Lib.hid (show strOfNums (putI c) = ⟨#[]⟩ by rw [putI, if_pos hb]; rfl)
    rcases hb with hb | hb | ⟨hb, hb'⟩
    · omega
    all_goals
      go_enter Tryz.func100, Tryz.ntmps100
      go_wp2
      go_ret
      exact ⟨ret_str (by rw [e.out]), Below.refl _ _⟩
  · have e := Lib.hid (show putI c = _ by rw [putI, if_neg hb])
    have g1 : c ≤ 1114111 := by omega
    by_cases h2 : c < 128
    · have e := Lib.hid (show putI c = _ from e.out.trans (if_pos h2))
      clear hb
      go_enter Tryz.func100, Tryz.ntmps100
      go_wp2
      go_ret
      exact ⟨ret_str (by rw [e.out]), (Below.refl _ _).alloc (Nat.le_refl _) _⟩
    · have e := Lib.hid (show putI c = _ from e.out.trans (if_neg h2))
      by_cases h3 : c < 2048
      · have e := Lib.hid (show putI c = _ from e.out.trans (if_pos h3))
        clear hb
        have e2 : bits .or .i64 192 (c / 64) = 192 + c / 64 := orI 5 _ _ (by omega) (by omega) (by omega) (by omega) (by omega) (by omega)
        have e3 : IntKind.u8.wrap (192 + c / 64) = 192 + c / 64 := by rw [IntKind.wrap_u8]; omega
        go_enter Tryz.func100, Tryz.ntmps100
        go_wp2_with (go_at_call 121; refine (utail_any _ _ (by omega) (by omega)).mono ?_; rintro e w' ⟨rfl, rfl⟩)
        go_ret
        exact ⟨ret_str (by rw [e.out]), (Below.refl _ _).alloc (Nat.le_refl _) _⟩
      · have e := Lib.hid (show putI c = _ from e.out.trans (if_neg h3))
        by_cases h4 : c < 65536
        · have e := Lib.hid (show putI c = _ from e.out.trans (if_pos h4))
          have e2 : bits .or .i64 224 (c / 4096) = 224 + c / 4096 := orI 4 _ _ (by omega) (by omega) (by omega) (by omega) (by omega) (by omega)
          have e3 : IntKind.u8.wrap (224 + c / 4096) = 224 + c / 4096 := by rw [IntKind.wrap_u8]; omega
          by_cases g2 : c < 55296
          · clear hb
            go_enter Tryz.func100, Tryz.ntmps100
            go_wp2_with (go_at_call 121; refine (utail_any _ _ (by omega) (by omega)).mono ?_; rintro e w' ⟨rfl, rfl⟩)
            go_ret
            exact ⟨ret_str (by rw [e.out]), (Below.refl _ _).alloc (Nat.le_refl _) _⟩
          · have g3 : 57343 < c := by omega
            clear hb
            go_enter Tryz.func100, Tryz.ntmps100
            go_wp2_with (go_at_call 121; refine (utail_any _ _ (by omega) (by omega)).mono ?_; rintro e w' ⟨rfl, rfl⟩)
            go_ret
            exact ⟨ret_str (by rw [e.out]), (Below.refl _ _).alloc (Nat.le_refl _) _⟩
        · have e := Lib.hid (show putI c = _ from e.out.trans (if_neg h4))
          have e2 : bits .or .i64 240 (c / 262144) = 240 + c / 262144 := orI 3 _ _ (by omega) (by omega) (by omega) (by omega) (by omega) (by omega)
          have e3 : IntKind.u8.wrap (240 + c / 262144) = 240 + c / 262144 := by rw [IntKind.wrap_u8]; omega
          have g3 : 57343 < c := by omega
          clear hb
          go_enter Tryz.func100, Tryz.ntmps100
          go_wp2_with (go_at_call 121; refine (utail_any _ _ (by omega) (by omega)).mono ?_; rintro e w' ⟨rfl, rfl⟩)
          go_ret
          exact ⟨ret_str (by rw [e.out]), (Below.refl _ _).alloc (Nat.le_refl _) _⟩

end

end Go.Proofs.YtpcbcodmocmilaaGreatDoor
