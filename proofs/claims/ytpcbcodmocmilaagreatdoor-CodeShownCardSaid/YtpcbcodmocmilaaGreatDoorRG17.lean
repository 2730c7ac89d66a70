/- RG17: Wj, Wb, Wd, We joined. -/
import Derived.Laws.BytesArg
import Derived.Test.YtpcbcodmocmilaaGreatDoorRG16
import Derived.Test.YtpcbcodmocmilaaGreatDoorRG03
namespace Go.Proofs.YtpcbcodmocmilaaGreatDoor
open Go.RowKit
/- qlex: units, char (text's closure). -/
section
open Go.RowKit

/-- What is returned of a character. -/
def ChE (o : Option (Int × Nat)) (e : Ending) : Prop :=
  match o with
  | none => ∃ m : Int, e = .returned (.tuple #[.int .i64 (-1), .int .i64 m])
  | some (x, n) => e = .returned (.tuple #[.int .i64 x, .int .i64 (n : Nat)])
theorem ChE.no {o : Option (Int × Nat)} (h : o = none) (m : Int) : ChE o (.returned (.tuple #[.int .i64 (-1), .int .i64 m])) := by rw [h]; exact ⟨m, rfl⟩
theorem ChE.yes {o : Option (Int × Nat)} {x : Int} {n : Nat} {y m : Int} (h : o = some (x, n)) (h1 : y = x) (h2 : m = n) : ChE o (.returned (.tuple #[.int .i64 y, .int .i64 m])) := by rw [h, h1, h2]; rfl
theorem unit_at (s : ByteArray) (u : Int) (w : World) (hs : s.size ≤ 9223372036854775000) (h : Hid (uval (unitV s.data.toList) = u)) :
    Calls Tryz.prog 119 #[.string s] w fun e w' => e = .returned (.int .i64 u) ∧ w = w' := by
  rw [← h.out]; exact unit_any s w hs
set_option maxRecDepth 100000 in
set_option maxHeartbeats 2000000 in
theorem units_any (s : ByteArray) (w : World) (hs : s.size ≤ 9223372036854775000) (h2 : 2 ≤ s.size) :
    Calls Tryz.prog 98 #[.string s] w fun e w' => ChE (unitsV (dr s 2)) e ∧ w = w' := by
  have hz2 : (s.extract 2 s.size).size ≤ 9223372036854775000 := by simp; omega
  cases hu : unitV (dr s 2) with
  | none =>
    have HU := Lib.hid (show uval (unitV (s.extract 2 s.size).data.toList) = -1 by rw [ext_drop]; show uval (unitV (dr s 2)) = _; rw [hu]; rfl)
    have HE := Lib.hid (show unitsV (dr s 2) = none by unfold unitsV; rw [hu])
    clear hu
    go_enter Tryz.func98, Tryz.ntmps98
    go_wp2_with (go_at_call 119; refine (unit_at _ _ _ hz2 HU).mono ?_; rintro e w' ⟨rfl, rfl⟩)
    go_ret2
    exact ⟨ChE.no HE.out _, rfl⟩
  | some a =>
    obtain ⟨ha0, ha1⟩ := unitV_bd hu
    have hl6 := unitV_len hu
    rw [dr, List.length_drop, len_toList] at hl6
    have hs6 : 6 ≤ s.size := by omega
    clear hl6
    have HU := Lib.hid (show uval (unitV (s.extract 2 s.size).data.toList) = a by rw [ext_drop]; show uval (unitV (dr s 2)) = _; rw [hu]; rfl)
    have HX := Lib.hid (show unitsV (dr s 2) = _ by unfold unitsV; rw [hu])
    simp only [dr_dr] at HX
    clear hu
    by_cases h1 : a < 55296 ∨ 57343 < a
    · have HE := Lib.hid (HX.out.trans (if_pos h1))
      clear HX
      rcases h1 with h1 | h1
      all_goals
        go_enter Tryz.func98, Tryz.ntmps98
        go_wp2_with (go_at_call 119; refine (unit_at _ _ _ hz2 HU).mono ?_; rintro e w' ⟨rfl, rfl⟩)
        go_ret2
        exact ⟨ChE.yes HE.out rfl rfl, rfl⟩
    · have HX := Lib.hid (HX.out.trans (if_neg h1))
      by_cases h3 : 56320 ≤ a
      · have HE := Lib.hid (HX.out.trans (if_pos h3))
        have h4 : 55296 ≤ a := by omega
        have h5 : a ≤ 57343 := by omega
        clear HX h1
        go_enter Tryz.func98, Tryz.ntmps98
        go_wp2_with (go_at_call 119; refine (unit_at _ _ _ hz2 HU).mono ?_; rintro e w' ⟨rfl, rfl⟩)
        go_ret2
        exact ⟨ChE.no HE.out _, rfl⟩
      · have HX := Lib.hid (HX.out.trans (if_neg h3))
        have h4 : 55296 ≤ a := by omega
        have h5 : a ≤ 57343 := by omega
        clear h1
        have hpp : preB (s.extract 6 s.size).data.toList (⟨#[92, 117]⟩ : ByteArray).data.toList = (hd (dr s 6) 92 && hd (dr s 7) 117) := by
          rw [ext_drop]; show preB (dr s 6) [92, 117] = _; rw [preB_two, dr_dr]
        obtain ⟨q, hq⟩ : ∃ q, (hd (dr s 6) 92 && hd (dr s 7) 117) = q := ⟨_, rfl⟩
        rw [hq] at hpp
        have HP := Lib.hid hpp
        clear hpp
        cases q with
        | false =>
          have HE := Lib.hid (HX.out.trans (if_neg (by rw [show 2 + 4 = 6 from rfl, show 2 + 5 = 7 from rfl, hq]; simp)))
          clear HX hq
          go_enter Tryz.func98, Tryz.ntmps98
          go_wp2_with (first | (go_at_call 119; refine (unit_at _ _ _ hz2 HU).mono ?_; rintro e w' ⟨rfl, rfl⟩) | (go_at_call 78; refine (hp_at _ _ _ _ HP).mono ?_; rintro e w' ⟨rfl, rfl⟩))
          go_ret2
          exact ⟨ChE.no HE.out _, rfl⟩
        | true =>
          have HX := Lib.hid (HX.out.trans (if_pos (by rw [show 2 + 4 = 6 from rfl, show 2 + 5 = 7 from rfl, hq])))
          have hs8 : 8 ≤ s.size := by
            rw [Bool.and_eq_true] at hq
            have := hd_lt hq.2; omega
          have hz8 : (s.extract 8 s.size).size ≤ 9223372036854775000 := by simp; omega
          clear hq
          have HX := Lib.hid (show unitsV (dr s 2) = match unitV (dr s 8) with | none => none | some b => if 56320 ≤ b ∧ b ≤ 57343 then some (65536 + (a - 55296) * 1024 + (b - 56320), 12) else none from HX.out)
          cases hv : unitV (dr s 8) with
          | none =>
            have HE := Lib.hid (show unitsV (dr s 2) = none by rw [HX.out, hv])
            have HV := Lib.hid (show uval (unitV (s.extract 8 s.size).data.toList) = -1 by rw [ext_drop]; show uval (unitV (dr s 8)) = _; rw [hv]; rfl)
            clear HX hv
            go_enter Tryz.func98, Tryz.ntmps98
            go_wp2_with (first | (go_at_call 119; with_reducible refine (unit_at (s.extract 2 s.size) _ _ hz2 HU).mono ?_; rintro e w' ⟨rfl, rfl⟩) | (go_at_call 119; with_reducible refine (unit_at (s.extract 8 s.size) _ _ hz8 HV).mono ?_; rintro e w' ⟨rfl, rfl⟩) | (go_at_call 78; refine (hp_at _ _ _ _ HP).mono ?_; rintro e w' ⟨rfl, rfl⟩))
            go_ret2
            exact ⟨ChE.no HE.out _, rfl⟩
          | some b =>
            obtain ⟨hb0, hb1⟩ := unitV_bd hv
            have HV := Lib.hid (show uval (unitV (s.extract 8 s.size).data.toList) = b by rw [ext_drop]; show uval (unitV (dr s 8)) = _; rw [hv]; rfl)
            have HX := Lib.hid (show unitsV (dr s 2) = _ by rw [HX.out, hv])
            clear hv
            by_cases h6 : b < 56320
            · have HE := Lib.hid (HX.out.trans (if_neg (by omega)))
              clear HX
              go_enter Tryz.func98, Tryz.ntmps98
              go_wp2_with (first | (go_at_call 119; with_reducible refine (unit_at (s.extract 2 s.size) _ _ hz2 HU).mono ?_; rintro e w' ⟨rfl, rfl⟩) | (go_at_call 119; with_reducible refine (unit_at (s.extract 8 s.size) _ _ hz8 HV).mono ?_; rintro e w' ⟨rfl, rfl⟩) | (go_at_call 78; refine (hp_at _ _ _ _ HP).mono ?_; rintro e w' ⟨rfl, rfl⟩))
              go_ret2
              exact ⟨ChE.no HE.out _, rfl⟩
            · by_cases h7 : 57343 < b
              · have HE := Lib.hid (HX.out.trans (if_neg (by omega)))
                clear HX
                go_enter Tryz.func98, Tryz.ntmps98
                go_wp2_with (first | (go_at_call 119; with_reducible refine (unit_at (s.extract 2 s.size) _ _ hz2 HU).mono ?_; rintro e w' ⟨rfl, rfl⟩) | (go_at_call 119; with_reducible refine (unit_at (s.extract 8 s.size) _ _ hz8 HV).mono ?_; rintro e w' ⟨rfl, rfl⟩) | (go_at_call 78; refine (hp_at _ _ _ _ HP).mono ?_; rintro e w' ⟨rfl, rfl⟩))
                go_ret2
                exact ⟨ChE.no HE.out _, rfl⟩
              · have HE := Lib.hid (HX.out.trans (if_pos (by omega)))
                have h8 : 56320 ≤ b := by omega
                have e1 : bits .and .i64 a 1023 = a - 55296 := (bits_mask .i64 62 (by decide) wraps_i64 10 (by decide) a (by omega) (by omega)).trans (by omega)
                have e2 : bits .and .i64 b 1023 = b - 56320 := (bits_mask .i64 62 (by decide) wraps_i64 10 (by decide) b (by omega) (by omega)).trans (by omega)
                clear HX
                go_enter Tryz.func98, Tryz.ntmps98
                go_wp2_with (first | (go_at_call 119; with_reducible refine (unit_at (s.extract 2 s.size) _ _ hz2 HU).mono ?_; rintro e w' ⟨rfl, rfl⟩) | (go_at_call 119; with_reducible refine (unit_at (s.extract 8 s.size) _ _ hz8 HV).mono ?_; rintro e w' ⟨rfl, rfl⟩) | (go_at_call 78; refine (hp_at _ _ _ _ HP).mono ?_; rintro e w' ⟨rfl, rfl⟩))
                go_ret2
                exact ⟨ChE.yes HE.out rfl rfl, rfl⟩

end
/- ref09: Put (as Ka, over A0). -/
section
open Go.RowKit

theorem conv_new (w : World) (xs : List Int) (n c : Nat) (t : TypeId) (m : Nat × Nat) (hn : xs.length = n) :
    (convert 78 9 (.slice (some ⟨w.heap.size, 0, none⟩) n c)).run Tryz.prog (w.alloc (.cells (xs.map (Value.int .u8)).toArray t m)) = .ok (.string (strOfNums xs)) (w.alloc (.cells (xs.map (Value.int .u8)).toArray t m)) :=
  run_convert_bytes_arg (P := Tryz.prog) _ 78 5 Tryz.underlying78 Tryz.underlying5 w.heap.size 0 n c xs hn (fun i hi => by
    rw [Nat.zero_add, World.cell?_alloc_mark]
    simp [List.getD, List.getElem?_eq_getElem (show i < xs.length by omega)]) 9 Tryz.underlying9
theorem conv_1 (w : World) (a : Int) : (convert 78 9 (.slice (some ⟨w.heap.size, 0, none⟩) 1 1)).run Tryz.prog (w.alloc (.cells #[.int .u8 a] 5)) = .ok (.string (strOfNums [a])) (w.alloc (.cells #[.int .u8 a] 5)) := conv_new w [a] 1 1 _ _ rfl
theorem conv_2 (w : World) (a b : Int) : (convert 78 9 (.slice (some ⟨w.heap.size, 0, none⟩) 2 2)).run Tryz.prog (w.alloc (.cells #[.int .u8 a, .int .u8 b] 5)) = .ok (.string (strOfNums [a, b])) (w.alloc (.cells #[.int .u8 a, .int .u8 b] 5)) := conv_new w [a, b] 2 2 _ _ rfl
theorem conv_3 (w : World) (a b c : Int) : (convert 78 9 (.slice (some ⟨w.heap.size, 0, none⟩) 3 3)).run Tryz.prog (w.alloc (.cells #[.int .u8 a, .int .u8 b, .int .u8 c] 5)) = .ok (.string (strOfNums [a, b, c])) (w.alloc (.cells #[.int .u8 a, .int .u8 b, .int .u8 c] 5)) := conv_new w [a, b, c] 3 3 _ _ rfl
theorem conv_4 (w : World) (a b c d : Int) : (convert 78 9 (.slice (some ⟨w.heap.size, 0, none⟩) 4 4)).run Tryz.prog (w.alloc (.cells #[.int .u8 a, .int .u8 b, .int .u8 c, .int .u8 d] 5)) = .ok (.string (strOfNums [a, b, c, d])) (w.alloc (.cells #[.int .u8 a, .int .u8 b, .int .u8 c, .int .u8 d] 5)) := conv_new w [a, b, c, d] 4 4 _ _ rfl

end
/- utf: Put, Scalar: what the program's own functions compute. -/
section
open Go.RowKit

set_option maxRecDepth 100000 in
set_option maxHeartbeats 1000000 in
theorem uput_any (c : Int) (w : World) (h0 : 0 ≤ c) (h1 : c < 2097152) :
    Calls Tryz.prog 100 #[.int .i64 c] w fun e w' => e = .returned (.string (strOfNums (putI c))) ∧ Below w.heap.size w w' := by
  have k1 := conv_1; have k2 := conv_2; have k3 := conv_3; have k4 := conv_4
  by_cases hb : c < 0 ∨ 1114111 < c ∨ (55296 ≤ c ∧ c ≤ 57343)
  · have e := Lib.hid (show strOfNums (putI c) = ⟨#[]⟩ by rw [putI, if_pos hb]; rfl)
    rcases hb with hb | hb | ⟨hb, hb'⟩
    · omega
    all_goals
      go_enter Tryz.func100, Tryz.ntmps100
      go_wp2
      go_ret
      exact ⟨ret_str (by rw [e.out]), Below.refl _ _⟩
  · have e := Lib.hid (show putI c = _ by rw [putI, if_neg hb])
    have g1 : c ≤ 1114111 := by omega
    by_cases h2 : c < 128
    · have e := Lib.hid (show putI c = _ from e.out.trans (if_pos h2))
      clear hb
      go_enter Tryz.func100, Tryz.ntmps100
      go_wp2
      go_ret
      exact ⟨ret_str (by rw [e.out]), (Below.refl _ _).alloc (Nat.le_refl _) _⟩
    · have e := Lib.hid (show putI c = _ from e.out.trans (if_neg h2))
      by_cases h3 : c < 2048
      · have e := Lib.hid (show putI c = _ from e.out.trans (if_pos h3))
        clear hb
        have e2 : bits .or .i64 192 (c / 64) = 192 + c / 64 := orI 5 _ _ (by omega) (by omega) (by omega) (by omega) (by omega) (by omega)
        have e3 : IntKind.u8.wrap (192 + c / 64) = 192 + c / 64 := by rw [IntKind.wrap_u8]; omega
        go_enter Tryz.func100, Tryz.ntmps100
        go_wp2_with (go_at_call 121; refine (utail_any _ _ (by omega) (by omega)).mono ?_; rintro e w' ⟨rfl, rfl⟩)
        go_ret
        exact ⟨ret_str (by rw [e.out]), (Below.refl _ _).alloc (Nat.le_refl _) _⟩
      · have e := Lib.hid (show putI c = _ from e.out.trans (if_neg h3))
        by_cases h4 : c < 65536
        · have e := Lib.hid (show putI c = _ from e.out.trans (if_pos h4))
          have e2 : bits .or .i64 224 (c / 4096) = 224 + c / 4096 := orI 4 _ _ (by omega) (by omega) (by omega) (by omega) (by omega) (by omega)
          have e3 : IntKind.u8.wrap (224 + c / 4096) = 224 + c / 4096 := by rw [IntKind.wrap_u8]; omega
          by_cases g2 : c < 55296
          · clear hb
            go_enter Tryz.func100, Tryz.ntmps100
            go_wp2_with (go_at_call 121; refine (utail_any _ _ (by omega) (by omega)).mono ?_; rintro e w' ⟨rfl, rfl⟩)
            go_ret
            exact ⟨ret_str (by rw [e.out]), (Below.refl _ _).alloc (Nat.le_refl _) _⟩
          · have g3 : 57343 < c := by omega
            clear hb
            go_enter Tryz.func100, Tryz.ntmps100
            go_wp2_with (go_at_call 121; refine (utail_any _ _ (by omega) (by omega)).mono ?_; rintro e w' ⟨rfl, rfl⟩)
            go_ret
            exact ⟨ret_str (by rw [e.out]), (Below.refl _ _).alloc (Nat.le_refl _) _⟩
        · have e := Lib.hid (show putI c = _ from e.out.trans (if_neg h4))
          have e2 : bits .or .i64 240 (c / 262144) = 240 + c / 262144 := orI 3 _ _ (by omega) (by omega) (by omega) (by omega) (by omega) (by omega)
          have e3 : IntKind.u8.wrap (240 + c / 262144) = 240 + c / 262144 := by rw [IntKind.wrap_u8]; omega
          have g3 : 57343 < c := by omega
          clear hb
          go_enter Tryz.func100, Tryz.ntmps100
          go_wp2_with (go_at_call 121; refine (utail_any _ _ (by omega) (by omega)).mono ?_; rintro e w' ⟨rfl, rfl⟩)
          go_ret
          exact ⟨ret_str (by rw [e.out]), (Below.refl _ _).alloc (Nat.le_refl _) _⟩

end
/- utf.Scalar: the program's. -/
section
open Go.RowKit

theorem ret2_int {a b c d : Int} (h : (a, b) = (c, d)) : Ending.returned (.tuple #[.int .i64 a, .int .i64 b]) = .returned (.tuple #[.int .i64 c, .int .i64 d]) := by cases h; rfl
theorem ustep_at (st b t : Int) (w : World) (h0 : 0 ≤ b) (h1 : b < 256) (h2 : 0 ≤ st) (h3 : st ≤ 8) (ht : Hid (ustep st b = t)) :
    Calls Tryz.prog 117 #[.int .i64 st, .int .u8 b] w fun e w' => e = .returned (.int .i64 t) ∧ w = w' := by
  rw [← ht.out]; exact ustep_any st b w h0 h1 h2 h3
theorem ulead_at (b t : Int) (w : World) (h0 : 0 ≤ b) (h1 : b < 256) (ht : Hid (ulead b = t)) :
    Calls Tryz.prog 118 #[.int .u8 b] w fun e w' => e = .returned (.int .i64 t) ∧ w = w' := by
  rw [← ht.out]; exact ulead_any b w h0 h1
theorem us_n0 (b : Int) : ustep 0 b = 8 ∨ (ustep 0 b = 0 ∧ b < 128) ∨ (194 ≤ b ∧ 1 ≤ ustep 0 b ∧ ustep 0 b ≤ 7) := by unfold ustep ufirst; (repeat' split) <;> omega
theorem us_n1 (st b : Int) (h : 1 ≤ st ∧ st ≤ 7) : ustep st b = 8 ∨ ustep st b = 0 ∨ ustep st b = 1 ∨ ustep st b = 2 := by unfold ustep; (repeat' split) <;> omega
theorem us_n2 (st b : Int) (h : st = 1 ∨ st = 2) : ustep st b = 8 ∨ ustep st b = 0 ∨ ustep st b = 1 := by unfold ustep; (repeat' split) <;> omega
theorem us_n3 (st b : Int) (h : st = 1) : ustep st b = 8 ∨ ustep st b = 0 := by unfold ustep; (repeat' split) <;> omega
/-- What is known between two bytes of a scalar. -/
def SCI (i : Nat) (st c : Int) : Prop := (i = 0 ∧ st = 0 ∧ c = 0) ∨ (i = 1 ∧ (1 ≤ st ∧ st ≤ 7) ∧ 0 ≤ c ∧ c < 64) ∨ (i = 2 ∧ (st = 1 ∨ st = 2) ∧ 0 ≤ c ∧ c < 4096) ∨ (i = 3 ∧ st = 1 ∧ 0 ≤ c ∧ c < 262144)
theorem SCI.next {i : Nat} {st c b t : Int} (h : SCI i st c) (hi : 0 < i) (ht : ustep st b = t) (h8 : t ≠ 8) (h0 : t ≠ 0) : SCI (i + 1) t (c * 64 + b % 64) := by
  subst ht
  unfold SCI at *
  rcases h with h | h | h | h
  · omega
  · have := us_n1 st b h.2.1; omega
  · have := us_n2 st b h.2.1; omega
  · have := us_n3 st b h.2.1; omega
theorem SCI.bd {i : Nat} {st c : Int} (h : SCI i st c) : 0 ≤ st ∧ st ≤ 8 ∧ 0 ≤ c ∧ c < 262144 ∧ i ≤ 3 := by unfold SCI at h; omega

set_option maxRecDepth 100000 in
set_option maxHeartbeats 4000000 in
theorem uscal_any (s : ByteArray) (w : World) (hs : s.size ≤ maxLen) :
    Calls Tryz.prog 97 #[.string s] w fun e w' => e = .returned (.tuple #[.int .i64 (scalV s.data.toList).1, .int .i64 (scalV s.data.toList).2]) ∧ w = w' := by
  have hs := id hs
  unfold maxLen at hs
  have HV := Lib.hid (usc_scal s.data.toList)
  go_enter Tryz.func97, Tryz.ntmps97
  go_wp2
  go_loop [4, 5, 10] (fun t u v => ∃ (i : Nat) (st c : Int), i ≤ s.size ∧ SCI i st c ∧ Hid (uscF s.data.toList 0 0 0 = uscF (dr s i) i st c) ∧ t = .int .i64 st ∧ u = .int .i64 c ∧ v = .int .i64 i) (fun _ _ v => s.size - (intOf v).toNat)
  case atStart => exact ⟨0, 0, 0, Nat.zero_le _, .inl ⟨rfl, rfl, rfl⟩, Lib.hid rfl, rfl, rfl, rfl⟩
  case round =>
    obtain ⟨i, st, c, hi, hI, HR, rfl, rfl, rfl⟩ := hrel
    obtain ⟨hb1, hb2, hb3, hb4, hb5⟩ := hI.bd
    by_cases hlt : i < s.size
    · have hb := s[i].toNat_lt
      obtain ⟨t, ht⟩ : ∃ t, ustep st s[i].toNat = t := ⟨_, rfl⟩
      have hdc : dr s i = s[i] :: dr s (i + 1) := drop_cons s i hlt
      by_cases h8 : t = 8
      · have HE := Lib.hid (show scalV s.data.toList = (0, 0) by rw [← HV.out, HR.out, hdc, uscF_dead _ _ _ _ _ (ht.trans h8)])
        subst h8
        have HT := Lib.hid ht
        clear ht hdc HV HR
        go_wp2_with (go_at_call 117; refine (ustep_at _ _ _ _ (by omega) (by omega) (by omega) (by omega) HT).mono ?_; rintro e w' ⟨rfl, rfl⟩)
        go_ret2
        exact ⟨ret2_int (by rw [HE.out]), rfl⟩
      · have k8 : (t == 8) = false := by simpa using h8
        by_cases hi0 : i = 0
        · have HI0 := Lib.hid hi0
          have hst : st = 0 := by unfold SCI at hI; omega
          have hc : c = 0 := by unfold SCI at hI; omega
          subst hst hc
          have hn := us_n0 s[i].toNat
          rw [ht] at hn
          by_cases h0 : t = 0
          · have HE := Lib.hid (show scalV s.data.toList = ((s[i].toNat : Int), (i : Int) + 1) by
              rw [← HV.out, HR.out, hdc, uscF_end _ _ _ _ _ (ht.trans h0), uadd, if_neg (by omega), if_pos (by omega)])
            have hl : (s[i].toNat : Int) < 128 := by omega
            subst h0
            have HT := Lib.hid ht
            have hi0' : decide (0 < i) = false := by simpa using hi0
            clear ht hdc HV HR h8 hi0
            go_wp2_with (go_at_call 117; refine (ustep_at _ _ _ _ (by omega) (by omega) (by omega) (by omega) HT).mono ?_; rintro e w' ⟨rfl, rfl⟩)
            go_ret2
            exact ⟨ret2_int (by rw [HE.out]), rfl⟩
          · have k0 : (t == 0) = false := by simpa using h0
            have hl : 194 ≤ (s[i].toNat : Int) := by omega
            have ht7 : 1 ≤ t ∧ t ≤ 7 := by omega
            have HN := Lib.hid (uscF_go s[i] (dr s (i + 1)) i 0 0 t ht h0 h8)
            have hi0' : decide (0 < i) = false := by simpa using hi0
            have HT := Lib.hid ht
            clear ht hn h8 h0
            by_cases hx : (s[i].toNat : Int) < 224
            · have HL := Lib.hid (show ulead s[i].toNat = 1 by unfold ulead; (repeat' split) <;> omega)
              have ha : bits .and .i64 (s[i].toNat : Int) 31 = (s[i].toNat : Int) % 32 := and31 _ (by omega) (by omega)
              have HR := Lib.hid (show uscF s.data.toList 0 0 0 = uscF (dr s (i + 1)) (i + 1) t ((s[i].toNat : Int) % 32) by
                rw [HR.out, hdc, HN.out, uadd, if_neg (by omega), if_neg (by omega), if_neg (by omega), if_neg (by omega)])
              clear hdc HN hi0
              go_wp2_with (first | (go_at_call 117; refine (ustep_at _ _ _ _ (by omega) (by omega) (by omega) (by omega) HT).mono ?_; rintro e w' ⟨rfl, rfl⟩) | (go_at_call 118; refine (ulead_at _ _ _ (by omega) (by omega) HL).mono ?_; rintro e w' ⟨rfl, rfl⟩))
              go_round
              case rel => exact ⟨i + 1, t, _, by omega, .inr (.inl ⟨by rw [HI0.out], ht7, by omega, by omega⟩), HR, rfl, by go_num, by go_num⟩
              case measure => simp [intOf]; omega
            · by_cases hx2 : (s[i].toNat : Int) < 240
              · have HL := Lib.hid (show ulead s[i].toNat = 2 by unfold ulead; (repeat' split) <;> omega)
                have ha : bits .and .i64 (s[i].toNat : Int) 15 = (s[i].toNat : Int) % 16 := and15 _ (by omega) (by omega)
                have HR := Lib.hid (show uscF s.data.toList 0 0 0 = uscF (dr s (i + 1)) (i + 1) t ((s[i].toNat : Int) % 16) by
                  rw [HR.out, hdc, HN.out, uadd, if_neg (by omega), if_neg (by omega), if_neg (by omega), if_pos (by omega)])
                clear hdc HN hi0
                go_wp2_with (first | (go_at_call 117; refine (ustep_at _ _ _ _ (by omega) (by omega) (by omega) (by omega) HT).mono ?_; rintro e w' ⟨rfl, rfl⟩) | (go_at_call 118; refine (ulead_at _ _ _ (by omega) (by omega) HL).mono ?_; rintro e w' ⟨rfl, rfl⟩))
                go_round
                case rel => exact ⟨i + 1, t, _, by omega, .inr (.inl ⟨by rw [HI0.out], ht7, by omega, by omega⟩), HR, rfl, by go_num, by go_num⟩
                case measure => simp [intOf]; omega
              · have HL := Lib.hid (show ulead s[i].toNat = 3 by unfold ulead; (repeat' split) <;> omega)
                have ha : bits .and .i64 (s[i].toNat : Int) 7 = (s[i].toNat : Int) % 8 := and7 _ (by omega) (by omega)
                have HR := Lib.hid (show uscF s.data.toList 0 0 0 = uscF (dr s (i + 1)) (i + 1) t ((s[i].toNat : Int) % 8) by
                  rw [HR.out, hdc, HN.out, uadd, if_neg (by omega), if_neg (by omega), if_pos (by omega)])
                clear hdc HN hi0
                go_wp2_with (first | (go_at_call 117; refine (ustep_at _ _ _ _ (by omega) (by omega) (by omega) (by omega) HT).mono ?_; rintro e w' ⟨rfl, rfl⟩) | (go_at_call 118; refine (ulead_at _ _ _ (by omega) (by omega) HL).mono ?_; rintro e w' ⟨rfl, rfl⟩))
                go_round
                case rel => exact ⟨i + 1, t, _, by omega, .inr (.inl ⟨by rw [HI0.out], ht7, by omega, by omega⟩), HR, rfl, by go_num, by go_num⟩
                case measure => simp [intOf]; omega
        · have hi1 : 0 < i := by omega
          have ha : bits .and .i64 (s[i].toNat : Int) 63 = (s[i].toNat : Int) % 64 := and63 _ (by omega) (by omega)
          have ho : bits .or .i64 (c * 64) ((s[i].toNat : Int) % 64) = c * 64 + (s[i].toNat : Int) % 64 := orI 6 _ _ (by omega) (by omega) (by omega) (by omega) (by omega) (by omega)
          by_cases h0 : t = 0
          · have HE := Lib.hid (show scalV s.data.toList = (c * 64 + (s[i].toNat : Int) % 64, (i : Int) + 1) by
              rw [← HV.out, HR.out, hdc, uscF_end _ _ _ _ _ (ht.trans h0), uadd, if_pos hi1])
            subst h0
            have HT := Lib.hid ht
            clear ht hdc HV HR h8
            go_wp2_with (go_at_call 117; refine (ustep_at _ _ _ _ (by omega) (by omega) (by omega) (by omega) HT).mono ?_; rintro e w' ⟨rfl, rfl⟩)
            go_ret2
            exact ⟨ret2_int (by rw [HE.out]), rfl⟩
          · have k0 : (t == 0) = false := by simpa using h0
            have hI' := hI.next hi1 ht h8 h0
            have HR := Lib.hid (show uscF s.data.toList 0 0 0 = uscF (dr s (i + 1)) (i + 1) t (c * 64 + (s[i].toNat : Int) % 64) by
              rw [HR.out, hdc, uscF_go _ _ _ _ _ t ht h0 h8, uadd, if_pos hi1])
            have HT := Lib.hid ht
            clear ht hdc h8 h0
            go_wp2_with (go_at_call 117; refine (ustep_at _ _ _ _ (by omega) (by omega) (by omega) (by omega) HT).mono ?_; rintro e w' ⟨rfl, rfl⟩)
            go_round
            case rel => exact ⟨i + 1, t, _, by omega, hI', HR, rfl, by go_num, by go_num⟩
            case measure => simp [intOf]; omega
    · have HE := Lib.hid (show scalV s.data.toList = (0, 0) by rw [← HV.out, HR.out, show dr s i = [] from drop_nil s i (by omega)]; rfl)
      clear HV HR
      go_wp2
      go_ret2
      exact ⟨ret2_int (by rw [HE.out]), rfl⟩

end

end Go.Proofs.YtpcbcodmocmilaaGreatDoor
