/- M5: Wa, Wd, We, Wf, Wg, Wh joined. -/
import Derived.Laws.BitsLemmas
import Derived.Test.YtmopeandckmgcaaDoorM1
import Derived.Test.YtmopeandckmgcaaDoorShq
namespace Go.Proofs.YtmopeandckmgcaaDoor
open Go.RowKit
/- utf: first, Step, lead, tail: the machine of states. -/

set_option maxRecDepth 100000 in
set_option maxHeartbeats 1000000 in
theorem ufirst_any (b : Int) (w : World) (h0 : 0 ≤ b) (h1 : b < 256) :
    Calls Tryd.prog 77 #[.int .u8 b] w fun e w' => e = .returned (.int .i64 (ufirst b)) ∧ w = w' := by
  go_enter Tryd.func77, Tryd.ntmps77
  go_wp2
  all_goals
    go_ret
    exact ⟨ret_int (by unfold ufirst; (try simp only [beq_iff_eq, beq_eq_false_iff_ne, ne_eq] at *); (repeat' split) <;> omega), rfl⟩

theorem ufirst_bd (b : Int) : 0 ≤ ufirst b ∧ ufirst b ≤ 8 := by unfold ufirst; (repeat' split) <;> omega
theorem ustep_bd (st b : Int) : 0 ≤ ustep st b ∧ ustep st b ≤ 8 := by
  have := ufirst_bd b
  unfold ustep; (repeat' split) <;> omega

set_option maxRecDepth 100000 in
set_option maxHeartbeats 1000000 in
theorem ustep_any (st b : Int) (w : World) (h0 : 0 ≤ b) (h1 : b < 256) (h2 : 0 ≤ st) (h3 : st ≤ 8) :
    Calls Tryd.prog 65 #[.int .i64 st, .int .u8 b] w fun e w' => e = .returned (.int .i64 (ustep st b)) ∧ w = w' := by
  go_enter Tryd.func65, Tryd.ntmps65
  go_wp2_with (go_at_call 77; refine (ufirst_any _ _ (by omega) (by omega)).mono ?_; rintro e w' ⟨rfl, rfl⟩)
  all_goals
    go_ret
    exact ⟨ret_int (by unfold ustep; (try simp only [beq_iff_eq, beq_eq_false_iff_ne, ne_eq] at *); (repeat' split) <;> omega), rfl⟩

set_option maxRecDepth 100000 in
set_option maxHeartbeats 1000000 in
theorem ulead_any (b : Int) (w : World) (h0 : 0 ≤ b) (h1 : b < 256) :
    Calls Tryd.prog 66 #[.int .u8 b] w fun e w' => e = .returned (.int .i64 (ulead b)) ∧ w = w' := by
  go_enter Tryd.func66, Tryd.ntmps66
  go_wp2
  all_goals
    go_ret
    exact ⟨ret_int (by unfold ulead; (repeat' split) <;> omega), rfl⟩

theorem wraps_i64 (n : Int) (h₀ : 0 ≤ n) (h₁ : n < 2 ^ 62) : IntKind.i64.wrap n = n := by rw [IntKind.wrap_i64]; omega
theorem and63 (x : Int) (h0 : 0 ≤ x) (h1 : x < 4611686018427387904) : bits .and .i64 x 63 = x % 64 := bits_mask .i64 62 (by decide) wraps_i64 6 (by decide) x h0 h1
theorem and31 (x : Int) (h0 : 0 ≤ x) (h1 : x < 4611686018427387904) : bits .and .i64 x 31 = x % 32 := bits_mask .i64 62 (by decide) wraps_i64 5 (by decide) x h0 h1
theorem and15 (x : Int) (h0 : 0 ≤ x) (h1 : x < 4611686018427387904) : bits .and .i64 x 15 = x % 16 := bits_mask .i64 62 (by decide) wraps_i64 4 (by decide) x h0 h1
theorem and7 (x : Int) (h0 : 0 ≤ x) (h1 : x < 4611686018427387904) : bits .and .i64 x 7 = x % 8 := bits_mask .i64 62 (by decide) wraps_i64 3 (by decide) x h0 h1
theorem orI (i : Nat) (x y : Int) (h0 : 0 ≤ x) (hx : x % 2 ^ i = 0) (h1 : x < 4611686018427387904) (h2 : 0 ≤ y) (h3 : y < 2 ^ i) (h4 : y < 4611686018427387904) : bits .or .i64 x y = x + y :=
  bits_join .i64 62 (by decide) wraps_i64 i x y h0 hx h1 h2 h3 h4

set_option maxRecDepth 100000 in
set_option maxHeartbeats 1000000 in
theorem utail_any (c : Int) (w : World) (h0 : 0 ≤ c) (h1 : c < 2097152) :
    Calls Tryd.prog 70 #[.int .i64 c] w fun e w' => e = .returned (.int .u8 (128 + c % 64)) ∧ w = w' := by
  have e1 := and63 c h0 (by omega)
  have e2 : bits .or .i64 128 (c % 64) = 128 + c % 64 := orI 6 _ _ (by omega) (by omega) (by omega) (by omega) (by omega) (by omega)
  have e3 : IntKind.u8.wrap (128 + c % 64) = 128 + c % 64 := by rw [IntKind.wrap_u8]; omega
  go_enter Tryd.func70, Tryd.ntmps70
  go_wp2
  go_ret
  exact ⟨rfl, rfl⟩

/- utf: Put, Scalar: what the program's own functions compute. -/

set_option maxRecDepth 100000 in
set_option maxHeartbeats 1000000 in
theorem uput_any (c : Int) (w : World) (h0 : 0 ≤ c) (h1 : c < 2097152) :
    Calls Tryd.prog 56 #[.int .i64 c] w fun e w' => e = .returned (.string (strOfNums (putI c))) ∧ Below w.heap.size w w' := by
  have k1 := conv_1; have k2 := conv_2; have k3 := conv_3; have k4 := conv_4
  by_cases hb : c < 0 ∨ 1114111 < c ∨ (55296 ≤ c ∧ c ≤ 57343)
  · have e := Lib.hid (show strOfNums (putI c) = ⟨#[]⟩ by rw [putI, if_pos hb]; rfl)
    rcases hb with hb | hb | ⟨hb, hb'⟩
    · omega
    all_goals
      go_enter Tryd.func56, Tryd.ntmps56
      go_wp2
      go_ret
      exact ⟨ret_str (by rw [e.out]), Below.refl _ _⟩
  · have e := Lib.hid (show putI c = _ by rw [putI, if_neg hb])
    have g1 : c ≤ 1114111 := by omega
    by_cases h2 : c < 128
    · have e := Lib.hid (show putI c = _ from e.out.trans (if_pos h2))
      clear hb
      go_enter Tryd.func56, Tryd.ntmps56
      go_wp2
      go_ret
      exact ⟨ret_str (by rw [e.out]), (Below.refl _ _).alloc (Nat.le_refl _) _⟩
    · have e := Lib.hid (show putI c = _ from e.out.trans (if_neg h2))
      by_cases h3 : c < 2048
      · have e := Lib.hid (show putI c = _ from e.out.trans (if_pos h3))
        clear hb
        have e2 : bits .or .i64 192 (c / 64) = 192 + c / 64 := orI 5 _ _ (by omega) (by omega) (by omega) (by omega) (by omega) (by omega)
        have e3 : IntKind.u8.wrap (192 + c / 64) = 192 + c / 64 := by rw [IntKind.wrap_u8]; omega
        go_enter Tryd.func56, Tryd.ntmps56
        go_wp2_with (go_at_call 70; refine (utail_any _ _ (by omega) (by omega)).mono ?_; rintro e w' ⟨rfl, rfl⟩)
        go_ret
        exact ⟨ret_str (by rw [e.out]), (Below.refl _ _).alloc (Nat.le_refl _) _⟩
      · have e := Lib.hid (show putI c = _ from e.out.trans (if_neg h3))
        by_cases h4 : c < 65536
        · have e := Lib.hid (show putI c = _ from e.out.trans (if_pos h4))
          have e2 : bits .or .i64 224 (c / 4096) = 224 + c / 4096 := orI 4 _ _ (by omega) (by omega) (by omega) (by omega) (by omega) (by omega)
          have e3 : IntKind.u8.wrap (224 + c / 4096) = 224 + c / 4096 := by rw [IntKind.wrap_u8]; omega
          by_cases g2 : c < 55296
          · clear hb
            go_enter Tryd.func56, Tryd.ntmps56
            go_wp2_with (go_at_call 70; refine (utail_any _ _ (by omega) (by omega)).mono ?_; rintro e w' ⟨rfl, rfl⟩)
            go_ret
            exact ⟨ret_str (by rw [e.out]), (Below.refl _ _).alloc (Nat.le_refl _) _⟩
          · have g3 : 57343 < c := by omega
            clear hb
            go_enter Tryd.func56, Tryd.ntmps56
            go_wp2_with (go_at_call 70; refine (utail_any _ _ (by omega) (by omega)).mono ?_; rintro e w' ⟨rfl, rfl⟩)
            go_ret
            exact ⟨ret_str (by rw [e.out]), (Below.refl _ _).alloc (Nat.le_refl _) _⟩
        · have e := Lib.hid (show putI c = _ from e.out.trans (if_neg h4))
          have e2 : bits .or .i64 240 (c / 262144) = 240 + c / 262144 := orI 3 _ _ (by omega) (by omega) (by omega) (by omega) (by omega) (by omega)
          have e3 : IntKind.u8.wrap (240 + c / 262144) = 240 + c / 262144 := by rw [IntKind.wrap_u8]; omega
          have g3 : 57343 < c := by omega
          clear hb
          go_enter Tryd.func56, Tryd.ntmps56
          go_wp2_with (go_at_call 70; refine (utail_any _ _ (by omega) (by omega)).mono ?_; rintro e w' ⟨rfl, rfl⟩)
          go_ret
          exact ⟨ret_str (by rw [e.out]), (Below.refl _ _).alloc (Nat.le_refl _) _⟩

/- utf.Scalar: the program's. -/

theorem ret2_int {a b c d : Int} (h : (a, b) = (c, d)) : Ending.returned (.tuple #[.int .i64 a, .int .i64 b]) = .returned (.tuple #[.int .i64 c, .int .i64 d]) := by cases h; rfl
theorem ustep_at (st b t : Int) (w : World) (h0 : 0 ≤ b) (h1 : b < 256) (h2 : 0 ≤ st) (h3 : st ≤ 8) (ht : Hid (ustep st b = t)) :
    Calls Tryd.prog 65 #[.int .i64 st, .int .u8 b] w fun e w' => e = .returned (.int .i64 t) ∧ w = w' := by
  rw [← ht.out]; exact ustep_any st b w h0 h1 h2 h3
theorem ulead_at (b t : Int) (w : World) (h0 : 0 ≤ b) (h1 : b < 256) (ht : Hid (ulead b = t)) :
    Calls Tryd.prog 66 #[.int .u8 b] w fun e w' => e = .returned (.int .i64 t) ∧ w = w' := by
  rw [← ht.out]; exact ulead_any b w h0 h1
theorem us_n0 (b : Int) : ustep 0 b = 8 ∨ (ustep 0 b = 0 ∧ b < 128) ∨ (194 ≤ b ∧ 1 ≤ ustep 0 b ∧ ustep 0 b ≤ 7) := by unfold ustep ufirst; (repeat' split) <;> omega
theorem us_n1 (st b : Int) (h : 1 ≤ st ∧ st ≤ 7) : ustep st b = 8 ∨ ustep st b = 0 ∨ ustep st b = 1 ∨ ustep st b = 2 := by unfold ustep; (repeat' split) <;> omega
theorem us_n2 (st b : Int) (h : st = 1 ∨ st = 2) : ustep st b = 8 ∨ ustep st b = 0 ∨ ustep st b = 1 := by unfold ustep; (repeat' split) <;> omega
theorem us_n3 (st b : Int) (h : st = 1) : ustep st b = 8 ∨ ustep st b = 0 := by unfold ustep; (repeat' split) <;> omega
/-- What is known between two bytes of a scalar. -/
def SCI (i : Nat) (st c : Int) : Prop := (i = 0 ∧ st = 0 ∧ c = 0) ∨ (i = 1 ∧ (1 ≤ st ∧ st ≤ 7) ∧ 0 ≤ c ∧ c < 64) ∨ (i = 2 ∧ (st = 1 ∨ st = 2) ∧ 0 ≤ c ∧ c < 4096) ∨ (i = 3 ∧ st = 1 ∧ 0 ≤ c ∧ c < 262144)
theorem SCI.next {i : Nat} {st c b t : Int} (h : SCI i st c) (hi : 0 < i) (ht : ustep st b = t) (h8 : t ≠ 8) (h0 : t ≠ 0) : SCI (i + 1) t (c * 64 + b % 64) := by
  subst ht
  unfold SCI at *
  rcases h with h | h | h | h
  · omega
  · have := us_n1 st b h.2.1; omega
  · have := us_n2 st b h.2.1; omega
  · have := us_n3 st b h.2.1; omega
theorem SCI.bd {i : Nat} {st c : Int} (h : SCI i st c) : 0 ≤ st ∧ st ≤ 8 ∧ 0 ≤ c ∧ c < 262144 ∧ i ≤ 3 := by unfold SCI at h; omega

set_option maxRecDepth 100000 in
set_option maxHeartbeats 4000000 in
theorem uscal_any (s : ByteArray) (w : World) (hs : s.size ≤ maxLen) :
    Calls Tryd.prog 52 #[.string s] w fun e w' => e = .returned (.tuple #[.int .i64 (scalV s.data.toList).1, .int .i64 (scalV s.data.toList).2]) ∧ w = w' := by
  have hs := id hs
  unfold maxLen at hs
  have HV := Lib.hid (usc_scal s.data.toList)
  go_enter Tryd.func52, Tryd.ntmps52
  go_wp2
  go_loop [4, 5, 10] (fun t u v => ∃ (i : Nat) (st c : Int), i ≤ s.size ∧ SCI i st c ∧ Hid (uscF s.data.toList 0 0 0 = uscF (dr s i) i st c) ∧ t = .int .i64 st ∧ u = .int .i64 c ∧ v = .int .i64 i) (fun _ _ v => s.size - (intOf v).toNat)
  case atStart => exact ⟨0, 0, 0, Nat.zero_le _, .inl ⟨rfl, rfl, rfl⟩, Lib.hid rfl, rfl, rfl, rfl⟩
  case round =>
    obtain ⟨i, st, c, hi, hI, HR, rfl, rfl, rfl⟩ := hrel
    obtain ⟨hb1, hb2, hb3, hb4, hb5⟩ := hI.bd
    by_cases hlt : i < s.size
    · have hb := s[i].toNat_lt
      obtain ⟨t, ht⟩ : ∃ t, ustep st s[i].toNat = t := ⟨_, rfl⟩
      have hdc : dr s i = s[i] :: dr s (i + 1) := drop_cons s i hlt
      by_cases h8 : t = 8
      · have HE := Lib.hid (show scalV s.data.toList = (0, 0) by rw [← HV.out, HR.out, hdc, uscF_dead _ _ _ _ _ (ht.trans h8)])
        subst h8
        have HT := Lib.hid ht
        clear ht hdc HV HR
        go_wp2_with (go_at_call 65; refine (ustep_at _ _ _ _ (by omega) (by omega) (by omega) (by omega) HT).mono ?_; rintro e w' ⟨rfl, rfl⟩)
        go_ret2
        exact ⟨ret2_int (by rw [HE.out]), rfl⟩
      · have k8 : (t == 8) = false := by simpa using h8
        by_cases hi0 : i = 0
        · have HI0 := Lib.hid hi0
          have hst : st = 0 := by unfold SCI at hI; omega
          have hc : c = 0 := by unfold SCI at hI; omega
          subst hst hc
          have hn := us_n0 s[i].toNat
          rw [ht] at hn
          by_cases h0 : t = 0
          · have HE := Lib.hid (show scalV s.data.toList = ((s[i].toNat : Int), (i : Int) + 1) by
              rw [← HV.out, HR.out, hdc, uscF_end _ _ _ _ _ (ht.trans h0), uadd, if_neg (by omega), if_pos (by omega)])
            have hl : (s[i].toNat : Int) < 128 := by omega
            subst h0
            have HT := Lib.hid ht
            have hi0' : decide (0 < i) = false := by simpa using hi0
            clear ht hdc HV HR h8 hi0
            go_wp2_with (go_at_call 65; refine (ustep_at _ _ _ _ (by omega) (by omega) (by omega) (by omega) HT).mono ?_; rintro e w' ⟨rfl, rfl⟩)
            go_ret2
            exact ⟨ret2_int (by rw [HE.out]), rfl⟩
          · have k0 : (t == 0) = false := by simpa using h0
            have hl : 194 ≤ (s[i].toNat : Int) := by omega
            have ht7 : 1 ≤ t ∧ t ≤ 7 := by omega
            have HN := Lib.hid (uscF_go s[i] (dr s (i + 1)) i 0 0 t ht h0 h8)
            have hi0' : decide (0 < i) = false := by simpa using hi0
            have HT := Lib.hid ht
            clear ht hn h8 h0
            by_cases hx : (s[i].toNat : Int) < 224
            · have HL := Lib.hid (show ulead s[i].toNat = 1 by unfold ulead; (repeat' split) <;> omega)
              have ha : bits .and .i64 (s[i].toNat : Int) 31 = (s[i].toNat : Int) % 32 := and31 _ (by omega) (by omega)
              have HR := Lib.hid (show uscF s.data.toList 0 0 0 = uscF (dr s (i + 1)) (i + 1) t ((s[i].toNat : Int) % 32) by
                rw [HR.out, hdc, HN.out, uadd, if_neg (by omega), if_neg (by omega), if_neg (by omega), if_neg (by omega)])
              clear hdc HN hi0
              go_wp2_with (first | (go_at_call 65; refine (ustep_at _ _ _ _ (by omega) (by omega) (by omega) (by omega) HT).mono ?_; rintro e w' ⟨rfl, rfl⟩) | (go_at_call 66; refine (ulead_at _ _ _ (by omega) (by omega) HL).mono ?_; rintro e w' ⟨rfl, rfl⟩))
              go_round
              case rel => exact ⟨i + 1, t, _, by omega, .inr (.inl ⟨by rw [HI0.out], ht7, by omega, by omega⟩), HR, rfl, by go_num, by go_num⟩
              case measure => simp [intOf]; omega
            · by_cases hx2 : (s[i].toNat : Int) < 240
              · have HL := Lib.hid (show ulead s[i].toNat = 2 by unfold ulead; (repeat' split) <;> omega)
                have ha : bits .and .i64 (s[i].toNat : Int) 15 = (s[i].toNat : Int) % 16 := and15 _ (by omega) (by omega)
                have HR := Lib.hid (show uscF s.data.toList 0 0 0 = uscF (dr s (i + 1)) (i + 1) t ((s[i].toNat : Int) % 16) by
                  rw [HR.out, hdc, HN.out, uadd, if_neg (by omega), if_neg (by omega), if_neg (by omega), if_pos (by omega)])
                clear hdc HN hi0
                go_wp2_with (first | (go_at_call 65; refine (ustep_at _ _ _ _ (by omega) (by omega) (by omega) (by omega) HT).mono ?_; rintro e w' ⟨rfl, rfl⟩) | (go_at_call 66; refine (ulead_at _ _ _ (by omega) (by omega) HL).mono ?_; rintro e w' ⟨rfl, rfl⟩))
                go_round
                case rel => exact ⟨i + 1, t, _, by omega, .inr (.inl ⟨by rw [HI0.out], ht7, by omega, by omega⟩), HR, rfl, by go_num, by go_num⟩
                case measure => simp [intOf]; omega
              · have HL := Lib.hid (show ulead s[i].toNat = 3 by unfold ulead; (repeat' split) <;> omega)
                have ha : bits .and .i64 (s[i].toNat : Int) 7 = (s[i].toNat : Int) % 8 := and7 _ (by omega) (by omega)
                have HR := Lib.hid (show uscF s.data.toList 0 0 0 = uscF (dr s (i + 1)) (i + 1) t ((s[i].toNat : Int) % 8) by
                  rw [HR.out, hdc, HN.out, uadd, if_neg (by omega), if_neg (by omega), if_pos (by omega)])
                clear hdc HN hi0
                go_wp2_with (first | (go_at_call 65; refine (ustep_at _ _ _ _ (by omega) (by omega) (by omega) (by omega) HT).mono ?_; rintro e w' ⟨rfl, rfl⟩) | (go_at_call 66; refine (ulead_at _ _ _ (by omega) (by omega) HL).mono ?_; rintro e w' ⟨rfl, rfl⟩))
                go_round
                case rel => exact ⟨i + 1, t, _, by omega, .inr (.inl ⟨by rw [HI0.out], ht7, by omega, by omega⟩), HR, rfl, by go_num, by go_num⟩
                case measure => simp [intOf]; omega
        · have hi1 : 0 < i := by omega
          have ha : bits .and .i64 (s[i].toNat : Int) 63 = (s[i].toNat : Int) % 64 := and63 _ (by omega) (by omega)
          have ho : bits .or .i64 (c * 64) ((s[i].toNat : Int) % 64) = c * 64 + (s[i].toNat : Int) % 64 := orI 6 _ _ (by omega) (by omega) (by omega) (by omega) (by omega) (by omega)
          by_cases h0 : t = 0
          · have HE := Lib.hid (show scalV s.data.toList = (c * 64 + (s[i].toNat : Int) % 64, (i : Int) + 1) by
              rw [← HV.out, HR.out, hdc, uscF_end _ _ _ _ _ (ht.trans h0), uadd, if_pos hi1])
            subst h0
            have HT := Lib.hid ht
            clear ht hdc HV HR h8
            go_wp2_with (go_at_call 65; refine (ustep_at _ _ _ _ (by omega) (by omega) (by omega) (by omega) HT).mono ?_; rintro e w' ⟨rfl, rfl⟩)
            go_ret2
            exact ⟨ret2_int (by rw [HE.out]), rfl⟩
          · have k0 : (t == 0) = false := by simpa using h0
            have hI' := hI.next hi1 ht h8 h0
            have HR := Lib.hid (show uscF s.data.toList 0 0 0 = uscF (dr s (i + 1)) (i + 1) t (c * 64 + (s[i].toNat : Int) % 64) by
              rw [HR.out, hdc, uscF_go _ _ _ _ _ t ht h0 h8, uadd, if_pos hi1])
            have HT := Lib.hid ht
            clear ht hdc h8 h0
            go_wp2_with (go_at_call 65; refine (ustep_at _ _ _ _ (by omega) (by omega) (by omega) (by omega) HT).mono ?_; rintro e w' ⟨rfl, rfl⟩)
            go_round
            case rel => exact ⟨i + 1, t, _, by omega, hI', HR, rfl, by go_num, by go_num⟩
            case measure => simp [intOf]; omega
    · have HE := Lib.hid (show scalV s.data.toList = (0, 0) by rw [← HV.out, HR.out, show dr s i = [] from drop_nil s i (by omega)]; rfl)
      clear HV HR
      go_wp2
      go_ret2
      exact ⟨ret2_int (by rw [HE.out]), rfl⟩

/- qlex: digit, letter, nameLen, numberOf. -/

set_option maxHeartbeats 400000 in
theorem qdig_any (c : Int) (w : World) :
    Calls Tryd.prog 38 #[.int .u8 c] w fun e w' => e = .returned (.bool (digB c)) ∧ w = w' := by
  unfold digB
  go_enter Tryd.func38, Tryd.ntmps38
  go_wp2
  all_goals (go_ret; exact ⟨ret_bool (by refine Bool.eq_iff_iff.2 ?_; simp <;> omega), rfl⟩)
theorem qdig_at (c : Int) (b : Bool) (w : World) (h : Hid (digB c = b)) :
    Calls Tryd.prog 38 #[.int .u8 c] w fun e w' => e = .returned (.bool b) ∧ w = w' := by
  rw [← h.out]; exact qdig_any c w
theorem uscal_at (s : ByteArray) (c n : Int) (w : World) (hs : s.size ≤ maxLen) (h : Hid (scalV s.data.toList = (c, n))) :
    Calls Tryd.prog 52 #[.string s] w fun e w' => e = .returned (.tuple #[.int .i64 c, .int .i64 n]) ∧ w = w' := by
  have := uscal_any s w hs
  rw [h.out] at this; exact this

set_option maxRecDepth 100000 in
set_option maxHeartbeats 1000000 in
theorem letter_any (s : ByteArray) (w : World) (hs : s.size ≤ maxLen) :
    Calls Tryd.prog 58 #[.string s] w fun e w' => e = .returned (.int .i64 (letL s.data.toList : Nat)) ∧ w = w' := by
  have hb := scalV_len s.data.toList
  obtain ⟨c, n, hcn⟩ : ∃ c n, scalV s.data.toList = (c, n) := ⟨_, _, rfl⟩
  have HE := Lib.hid (show letL s.data.toList = if isLet c && decide (0 < n) then n.toNat else 0 by rw [letL, hcn])
  rw [hcn] at hb
  obtain ⟨h0, _, h1⟩ := hb
  simp only at h0 h1
  have HS := Lib.hid hcn
  clear hcn
  go_enter Tryd.func58, Tryd.ntmps58
  go_wp2_with (go_at_call 52; refine (uscal_at _ _ _ _ hs HS).mono ?_; rintro e w' ⟨rfl, rfl⟩)
  all_goals
    go_ret
    exact ⟨ret_int (by
      rw [HE.out]; unfold isLet
      (try simp only [beq_iff_eq, beq_eq_false_iff_ne, ne_eq, decide_eq_true_eq, Bool.or_eq_true, Bool.and_eq_true] at *)
      split <;> omega), rfl⟩
theorem letter_at (s : ByteArray) (m : Nat) (w : World) (hs : s.size ≤ maxLen) (h : Hid (letL s.data.toList = m)) :
    Calls Tryd.prog 58 #[.string s] w fun e w' => e = .returned (.int .i64 m) ∧ w = w' := by
  rw [← h.out]; exact letter_any s w hs

set_option maxRecDepth 100000 in
set_option maxHeartbeats 2000000 in
theorem nameLen_any (s : ByteArray) (w : World) (hs : s.size ≤ 9223372036854775000) :
    Calls Tryd.prog 40 #[.string s] w fun e w' => e = .returned (.int .i64 (nameL s.data.toList : Nat)) ∧ w = w' := by
  obtain ⟨m, hm⟩ : ∃ m, letL s.data.toList = m := ⟨_, rfl⟩
  have hml : m ≤ s.size := by rw [← hm, ← len_toList]; exact letL_le _
  have HN := Lib.hid (show nameL s.data.toList = if m = 0 then 0 else m + namF s.size (dr s m) by rw [nameL, hm, len_toList]; rfl)
  have HM := Lib.hid hm
  clear hm
  have hsx : s.size ≤ maxLen := by unfold maxLen; omega
  by_cases h0 : m = 0
  · have HE := Lib.hid (show nameL s.data.toList = 0 by rw [HN.out, if_pos h0])
    subst h0
    clear HN
    go_enter Tryd.func40, Tryd.ntmps40
    go_wp2_with (go_at_call 58; refine (letter_at _ _ _ hsx HM).mono ?_; rintro e w' ⟨rfl, rfl⟩)
    go_loop [3] (fun v => v = .int .i64 0) (fun _ => 0)
    case atStart => rfl
    case round =>
      obtain rfl := hrel
      go_wp2
      go_ret
      exact ⟨ret_int (by rw [HE.out]; rfl), rfl⟩
  · have hm0 : 0 < m := by omega
    have HE := Lib.hid (show nameL s.data.toList = m + namF s.size (dr s m) by rw [HN.out, if_neg h0])
    clear h0 HN
    go_enter Tryd.func40, Tryd.ntmps40
    go_wp2_with (go_at_call 58; refine (letter_at _ _ _ hsx HM).mono ?_; rintro e w' ⟨rfl, rfl⟩)
    go_loop [3] (fun v => ∃ p f : Nat, 0 < p ∧ p ≤ s.size ∧ s.size ≤ p + f ∧ v = .int .i64 p ∧ Hid (nameL s.data.toList = p + namF f (dr s p))) (fun v => s.size - (intOf v).toNat)
    case atStart => exact ⟨m, s.size, hm0, hml, by omega, rfl, HE⟩
    case round =>
      obtain ⟨p, f, hp0, hp, hf, rfl, HP⟩ := hrel
      by_cases hlt : p < s.size
      · obtain ⟨k, hk⟩ : ∃ k, letL (dr s p) = k := ⟨_, rfl⟩
        have HK := Lib.hid (show letL (s.extract p s.size).data.toList = k by rw [ext_drop]; exact hk)
        have hkl : p + k ≤ s.size := by have := letL_le (dr s p); rw [hk, dr, List.length_drop, len_toList] at this; omega
        have hes : (s.extract p s.size).size ≤ maxLen := by simp; unfold maxLen; omega
        have hxr : letR (dr s p) = if k = 0 then (if isDig s[p] then 1 else 0) else k := by
          unfold letR; rw [hk, dr, drop_cons s p hlt]
        have hbi := s[p].toNat_lt
        obtain ⟨f', rfl⟩ : ∃ f', f = f' + 1 := ⟨f - 1, by omega⟩
        by_cases hk0 : k = 0
        · rw [if_pos hk0] at hxr
          have HK0 := Lib.hid hk0
          cases hb : digB (s[p].toNat : Int) with
          | true =>
            rw [digB_eq] at hb
            rw [if_pos hb] at hxr
            have HP := Lib.hid (show nameL s.data.toList = (p + 1 : Nat) + namF f' (dr s (p + 1)) by rw [HP.out, namF_go f' _ 1 hxr (by omega), dr_dr]; omega)
            have HB := Lib.hid (show digB (s[p].toNat : Int) = true by rw [digB_eq]; exact hb)
            subst hk0
            clear hb hxr hk
            go_wp2_with (first | (go_at_call 58; refine (letter_at _ _ _ hes HK).mono ?_; rintro e w' ⟨rfl, rfl⟩) | (go_at_call 38; refine (qdig_at _ _ _ HB).mono ?_; rintro e w' ⟨rfl, rfl⟩))
            go_round
            case rel => exact ⟨p + 1, f', by omega, by omega, by omega, by go_num, HP⟩
            case measure => simp [intOf] <;> omega
          | false =>
            rw [digB_eq] at hb
            have HP := Lib.hid (show nameL s.data.toList = p by rw [HP.out, namF_stop _ _ (by rw [hxr, hb]; rfl)]; rfl)
            have HB := Lib.hid (show digB (s[p].toNat : Int) = false by rw [digB_eq]; exact hb)
            subst hk0
            clear hb hxr hk
            go_wp2_with (first | (go_at_call 58; refine (letter_at _ _ _ hes HK).mono ?_; rintro e w' ⟨rfl, rfl⟩) | (go_at_call 38; refine (qdig_at _ _ _ HB).mono ?_; rintro e w' ⟨rfl, rfl⟩))
            go_ret
            exact ⟨ret_int (by rw [HP.out]), rfl⟩
        · have hk1 : 0 < k := by omega
          rw [if_neg hk0] at hxr
          have HP := Lib.hid (show nameL s.data.toList = (p + k : Nat) + namF f' (dr s (p + k)) by rw [HP.out, namF_go f' _ k hxr hk0, dr_dr]; omega)
          have hk2 : ((k : Int) == 0) = false := by simp; omega
          clear hk0 hxr hk
          go_wp2_with (first | (go_at_call 58; refine (letter_at _ _ _ hes HK).mono ?_; rintro e w' ⟨rfl, rfl⟩))
          go_round
          case rel => exact ⟨p + k, f', by omega, by omega, by omega, by go_num, HP⟩
          case measure => simp [intOf] <;> omega
      · have HP := Lib.hid (show nameL s.data.toList = p by rw [HP.out, namF_stop _ _ (by rw [dr, drop_nil s p (by omega)]; exact letR_nil)]; rfl)
        go_wp2
        go_ret
        exact ⟨ret_int (by rw [HP.out]), rfl⟩

/- The library's functions that qlex calls, in my words: HasPrefix, IndexByte, TrimLeft, a Builder's WriteString and String. -/

set_option maxRecDepth 100000 in
set_option maxHeartbeats 1000000 in
theorem cc_used (b : Nat) (w : World) (h0 : w.cell? ⟨b, 0, none⟩ = some (.pointer (some ⟨b, 0, none⟩))) :
    Calls Tryd.prog 69 #[.pointer (some ⟨b, 0, none⟩)] w fun e w' => e = .returned (.tuple #[]) ∧ w' = w := by
  obtain ⟨j, hj, _⟩ := Option.map_eq_some_iff.1 Tryd.Builder_Extra_169.sizeBuilder
  go_enter Tryd.func69, Tryd.ntmps69
  go_wp2
  rw [Lib.run_neq_ptr_same w _ Tryd.underlying92 hj]
  go_wp2
  go_end0
  exact ⟨rfl, rfl⟩

set_option maxRecDepth 100000 in
set_option maxHeartbeats 1000000 in
theorem cc_fresh (b : Nat) (w : World) (h0 : w.cell? ⟨b, 0, none⟩ = some (.pointer none)) (hsh : w.shape? b = some (94, 2)) (hfz : w.frozen? ⟨b, 0, none⟩ = false) :
    Calls Tryd.prog 69 #[.pointer (some ⟨b, 0, none⟩)] w fun e w' => e = .returned (.tuple #[]) ∧ w' = w.setCell ⟨b, 0, none⟩ (.pointer (some ⟨b, 0, none⟩)) := by
  obtain ⟨j, hj, hjs⟩ := Option.map_eq_some_iff.1 Tryd.Builder_Extra_169.sizeBuilder
  go_enter Tryd.func69, Tryd.ntmps69
  go_wp2
  rw [Lib.run_to_unsafe w ⟨b, 0, none⟩ Tryd.underlying92 Tryd.underlying119 hj (by rw [hjs]; decide) hsh (Nat.zero_lt_succ 1)]
  simp only [Result.andThen]
  rw [Oper.upon_value]
  go_wp2
  rw [run_callFunc_extern Tryd.func79 (by kernel_rfl) (by kernel_rfl) (by kernel_rfl) (e := Extern.AbiNoEscape.same) (by kernel_rfl)]
  rw [Lib.run_noEscape]
  simp only [Result.andThen]
  rw [Oper.upon_value]
  go_wp2
  rw [Lib.run_from_unsafe w ⟨b, 0, none⟩ Tryd.underlying119 Tryd.underlying92 hj hsh Tryd.Builder_Extra_169.liesBuilder]
  simp only [Result.andThen]
  rw [Oper.upon_value]
  go_wp2
  go_end0
  exact ⟨rfl, rfl⟩

theorem cc_any (B b : Nat) (bs : List Value) (w : World) (h : Lib.IsBuilder 94 5 B b bs w) :
    Calls Tryd.prog 69 #[.pointer (some ⟨b, 0, none⟩)] w fun e w' => e = .returned (.tuple #[]) ∧ (Lib.BuilderAt 94 5 B b (.pointer (some ⟨b, 0, none⟩)) bs w' ∧ Below B w w') := by
  rcases h with h | h
  · refine (cc_fresh b w h.cell0 h.shape h.frozen0).mono ?_
    rintro e w' ⟨rfl, rfl⟩
    exact ⟨rfl, h.used _, (Below.refl B w).setCell (p := ⟨b, 0, none⟩) h.1 _⟩
  · refine (cc_used b w h.cell0).mono ?_
    rintro e w' ⟨rfl, rfl⟩
    exact ⟨rfl, h, Below.refl B _⟩

set_option maxHeartbeats 2000000 in
set_option maxRecDepth 100000 in
theorem wrs_any (B b : Nat) (bs : List Value) (s : ByteArray) (w : World) (h : Lib.IsBuilder 94 5 B b bs w) (hlen : bs.length + s.size ≤ 140737488355328) (hBw : B ≤ w.heap.size) :
    Calls Tryd.prog 55 #[.pointer (some ⟨b, 0, none⟩), .string s] w fun e w' => e = .returned (.tuple #[.int .i64 s.size, .nilIface]) ∧ (Lib.IsBuilder 94 5 B b (bs ++ Lib.strCells s) w' ∧ Below B w w') := by
  obtain ⟨i0, hi, hz0, hz1, hz2⟩ := info_parts Tryd.Builder_Extra_169.infoByte
  go_enter Tryd.func55, Tryd.ntmps55
  go_wp2_with (go_at_call 69; refine (cc_any B b bs _ h).mono ?_)
  rintro e w1 ⟨rfl, h1, hb1⟩
  obtain ⟨hB, v, hbk, hown, hne⟩ := h1
  have c0 : w1.cell? ⟨b, 0, none⟩ = some (.pointer (some ⟨b, 0, none⟩)) := by rw [Lib.cell_of_heap hbk]; rfl
  have c1 : w1.cell? ⟨b, 1, none⟩ = some v := by rw [Lib.cell_of_heap hbk]; rfl
  go_wp2_with (at_builtin; refine Lib.wpList_append_own_string _ rfl _ _ 88 9 rfl B 5 i0 Tryd.underlying88 Tryd.underlying9 hi hz0 hz1 hz2 _ _ _ rfl hown s rfl ?c3 ?c4 ?c5 ?_)
  case c3 => unfold maxLen; omega
  case c4 => omega
  case c5 => have := hb1.size; omega
  intro v' w2 hown' hgrow _
  have hlt : b < w1.heap.size := by
    rcases Nat.lt_or_ge b w1.heap.size with h' | h'
    · exact h'
    · simp [Array.getElem?_eq_none h'] at hbk
  have hb2 : w2.heap[b]? = some (.cells #[.pointer (some ⟨b, 0, none⟩), v] 94 (0, 0)) := by
    rw [hgrow.block b hlt (fun e => hne e.symm)]
    exact hbk
  have d0 : w2.cell? ⟨b, 0, none⟩ = some (.pointer (some ⟨b, 0, none⟩)) := by rw [Lib.cell_of_heap hb2]; rfl
  have d1 : w2.cell? ⟨b, 1, none⟩ = some v := by rw [Lib.cell_of_heap hb2]; rfl
  have f1 : w2.frozen? ⟨b, 1, none⟩ = false := Lib.frozen_of_heap hb2 1
  obtain ⟨ao, n', cap, rfl⟩ : ∃ ao n' cap, v' = .slice ao n' cap := by
    rcases hown'.2 with ⟨hv, _⟩ | ⟨g, cap, cur, hv, _⟩
    · exact ⟨_, _, _, hv⟩
    · exact ⟨_, _, _, hv⟩
  go_wp2
  go_ret2
  refine ⟨rfl, ?_, ?_⟩
  · exact .inr (Lib.BuilderAt.put (T := 94) (e := 5) hB hb2 (bs' := bs ++ Lib.strCells s) (by simpa [Lib.strCells_length] using hown') Tryd.Builder_Extra_169.neB5)
  · exact (hb1.grown hgrow (by have := hb1.size; omega) (fun k hk => (hown.lt k hk).1)).setCell (p := ⟨b, 1, none⟩) hB _

theorem hp_any (s p : ByteArray) (w : World) :
    Calls Tryd.prog 42 #[.string s, .string p] w fun e w' => e = .returned (.bool (preB s.data.toList p.data.toList)) ∧ w = w' := by
  refine (Tryd.strings_HasPrefix s p w).mono ?_
  rintro e w' ⟨rfl, rfl⟩
  exact ⟨by rw [Lib.hasPrefix, preB_eq], rfl⟩
theorem ib_any (s : ByteArray) (c : Int) (w : World) :
    Calls Tryd.prog 68 #[.string s, .int .u8 c] w fun e w' => e = .returned (.int .i64 (Lib.indexByte s.data.toList c.toNat.toUInt8)) ∧ w = w' :=
  (Tryd.strings_IndexByte s c w).mono fun _ _ ⟨h1, h2⟩ => ⟨h1, h2.symm⟩
theorem trim_drop (l : List UInt8) : Lib.trimLeftS l [32, 9, 10, 13] = l.drop (bkN l) := by
  unfold Lib.trimLeftS
  induction l with
  | nil => rfl
  | cons c r ih =>
    have e : ([32, 9, 10, 13] : List UInt8).contains c = isBk c := by
      unfold isBk; simp; rw [Bool.eq_iff_iff]; simp [or_assoc]
    rw [List.dropWhile_cons, bkN, e]
    cases isBk c with
    | true => simpa using ih
    | false => simp
theorem tl_any (s : ByteArray) (w : World) :
    Calls Tryd.prog 22 #[.string s, .string ⟨#[32, 9, 10, 13]⟩] w fun e w' => e = .returned (.string (s.extract (bkN s.data.toList) s.size)) ∧ Below w.heap.size w w' := by
  refine (Any.strings_TrimLeft_laid Tryd.lays161 (by kernel_rfl) s ⟨#[32, 9, 10, 13]⟩ w (by decide) (by intro j b; match j with | 0 | 1 | 2 | 3 => simp; rintro rfl; decide | j + 4 => simp)).mono ?_
  rintro e w' ⟨rfl, hb⟩
  exact ⟨ret_str (by rw [show (⟨#[32, 9, 10, 13]⟩ : ByteArray).data.toList = [32, 9, 10, 13] from rfl, trim_drop, extract_list]), hb⟩
theorem hp_at (s p : ByteArray) (b : Bool) (w : World) (h : Hid (preB s.data.toList p.data.toList = b)) :
    Calls Tryd.prog 42 #[.string s, .string p] w fun e w' => e = .returned (.bool b) ∧ w = w' := by
  rw [← h.out]; exact hp_any s p w

/- qlex: numberOf. -/

/-- The number's state between two digits. -/
def NI (v n e : Int) : Prop := (e = 0 ∧ n = v ∧ 0 ≤ n ∧ n ≤ 9007199254740991) ∨ (e = 6 ∧ n = 9007199254740991 ∧ v = 9007199254740992)
theorem NI.bd {v n e : Int} (h : NI v n e) : 0 ≤ n ∧ n ≤ 9007199254740991 := by unfold NI at h; omega
theorem NI.low {v n e : Int} {c : UInt8} (h : NI v n e) (hc : 48 ≤ (c.toNat : Int)) (h1 : n * 10 + ((c.toNat : Int) - 48) ≤ 9007199254740991) : NI (capI v c) (n * 10 + ((c.toNat : Int) - 48)) e := by
  unfold NI at *; unfold capI; omega
theorem NI.high {v n e : Int} {c : UInt8} (h : NI v n e) (hc : 48 ≤ (c.toNat : Int)) (h1 : 9007199254740991 < n * 10 + ((c.toNat : Int) - 48)) : NI (capI v c) 9007199254740991 6 := by
  unfold NI at *; unfold capI; omega
/-- What is returned of a number. -/
def NumE (l : List UInt8) (e : Ending) : Prop :=
  match numT l with
  | .error x => ∃ v m : Int, e = .returned (.tuple #[.int .i64 v, .int .i64 m, .int .i64 x])
  | .ok (v, m) => e = .returned (.tuple #[.int .i64 v, .int .i64 (m : Nat), .int .i64 0])
theorem NumE.err {l : List UInt8} {x : Int} (h : numT l = .error x) (v m : Int) : NumE l (.returned (.tuple #[.int .i64 v, .int .i64 m, .int .i64 x])) := by
  unfold NumE; rw [h]; exact ⟨v, m, rfl⟩
theorem NumE.good {l : List UInt8} {v u : Int} {m : Nat} {k : Int} (h : numT l = .ok (v, m)) (hu : u = v) (hk : k = m) : NumE l (.returned (.tuple #[.int .i64 u, .int .i64 k, .int .i64 0])) := by
  unfold NumE; rw [h, hu, hk]
set_option maxRecDepth 100000 in
set_option maxHeartbeats 4000000 in
theorem number_true (s : ByteArray) (w : World) (hs : s.size ≤ 9223372036854775000) (hb : hd s.data.toList 45 = true) :
    Calls Tryd.prog 39 #[.string s] w fun e w' => NumE s.data.toList e ∧ w = w' := by
  have HT := Lib.hid (numT_t s hb)
  have HPR := Lib.hid (show preB s.data.toList (⟨#[45]⟩ : ByteArray).data.toList = true by rw [show (⟨#[45]⟩ : ByteArray).data.toList = [45] from rfl, preB_one]; exact hb)
  have hD : 1 + digN (dr s 1) ≤ s.size := digN_bd s 1 (by have : 0 < s.size := hd_lt (s := s) (p := 0) (c := 45) (by simpa [dr] using hb); omega)
  clear hb
  go_enter Tryd.func39, Tryd.ntmps39
  go_wp2_with (go_at_call 42; refine (hp_at _ _ _ _ HPR).mono ?_; rintro e w' ⟨rfl, rfl⟩)
  go_loop [6, 8, 9] (fun u x y => ∃ (p : Nat) (n e : Int), 1 ≤ p ∧ p ≤ 1 + digN (dr s 1) ∧ NI (numV ((dr s 1).take (p - 1))) n e ∧ u = .int .i64 p ∧ x = .int .i64 n ∧ y = .int .i64 e) (fun u _ _ => s.size - (intOf u).toNat)
  case atStart => exact ⟨1, 0, 0, by omega, by omega, .inl ⟨rfl, rfl, by omega, by omega⟩, rfl, rfl, rfl⟩
  case round =>
    obtain ⟨p, n, e, hpa, hpD, hI, rfl, rfl, rfl⟩ := hrel
    obtain ⟨hn0, hn1⟩ := hI.bd
    by_cases hk : p < 1 + digN (dr s 1)
    · obtain ⟨hlt, hdg⟩ := dig_at s 1 p hpa hk
      obtain ⟨hc0, hc1⟩ := digB_bd hdg
      have HB := Lib.hid hdg
      have HS := Lib.hid (show numV ((dr s 1).take (p + 1 - 1)) = capI (numV ((dr s 1).take (p - 1))) s[p] by rw [dr_snoc s 1 p hpa hlt, numV_snoc])
      clear hdg
      by_cases hbig : 9007199254740991 < n * 10 + ((s[p].toNat : Int) - 48)
      · have hI := hI.high hc0 hbig
        go_wp2_with (go_at_call 38; refine (qdig_at _ _ _ HB).mono ?_; rintro e w' ⟨rfl, rfl⟩)
        go_round
        case rel => exact ⟨p + 1, _, 6, by omega, by omega, by rw [HS.out]; exact hI, by go_num, rfl, rfl⟩
        case measure => simp [intOf] <;> omega
      · have hI := hI.low hc0 (by omega)
        go_wp2_with (go_at_call 38; refine (qdig_at _ _ _ HB).mono ?_; rintro e w' ⟨rfl, rfl⟩)
        go_round
        case rel => exact ⟨p + 1, _, e, by omega, by omega, by rw [HS.out]; exact hI, by go_num, rfl, rfl⟩
        case measure => simp [intOf] <;> omega
    · have hp : p = 1 + digN (dr s 1) := by omega
      have hpk : p - 1 = digN (dr s 1) := by omega
      rw [hpk] at hI
      by_cases hlt : p < s.size
      · have HB := Lib.hid (dig_end s 1 p hp hlt)
        have HP := Lib.hid hp
        have HD1 := Lib.hid hpk
        have HK := Lib.hid hk
        have hq : digN (dr s 1) ≤ p - 1 := by omega
        clear hpk hp hk
        · have hni := hI
          unfold NI at hni
          by_cases hD0 : p = 1
          · have HE := Lib.hid (show numT s.data.toList = .error 3 by rw [HT.out, if_pos (.inl (by have := HP.out; omega))])
            subst hD0
            clear HT
            go_wp2_with (go_at_call 38; refine (qdig_at _ _ _ HB).mono ?_; rintro e w' ⟨rfl, rfl⟩)
            exact bodyPost_ret (v := .tuple #[.int .i64 0, .int .i64 0, .int .i64 3]) (by simp [results, Tryd.results39, go_sem]) rfl ⟨NumE.err HE.out _ _, rfl⟩
          · have hp1 : 1 < p := by omega
            have hp2 : ((p : Int) == 1) = false := by simp; omega
            have hs0 : 1 < s.size := by omega
            cases hz : ((s[1].toNat : Int) == 48) with
            | true =>
              have hzd : hd (dr s 1) 48 = true := hd_t hs0 (by simpa using hz)
              have HE := Lib.hid (show numT s.data.toList = .error 3 by rw [HT.out, if_pos (.inr hzd)])
              clear HT hzd hD0
              go_wp2_with (go_at_call 38; refine (qdig_at _ _ _ HB).mono ?_; rintro e w' ⟨rfl, rfl⟩)
              exact bodyPost_ret (v := .tuple #[.int .i64 0, .int .i64 0, .int .i64 3]) (by simp [results, Tryd.results39, go_sem]) rfl ⟨NumE.err HE.out _ _, rfl⟩
            | false =>
              have hzd : hd (dr s 1) 48 = false := hd_f (by intro _ h; rw [beq_eq_false_iff_ne] at hz; exact hz h)
              have HT := Lib.hid (HT.out.trans (if_neg (by have := HP.out; intro h; rcases h with h | h; (· omega); (· simp [hzd] at h))))
              rcases hni with ⟨he, hn, _, _⟩ | ⟨he, hn, hv⟩
              · have HE := Lib.hid (show numT s.data.toList = .ok ((-n), p) by rw [HT.out, if_neg (by omega)]; rw [show 1 + digN (dr s 1) = p from HP.out.symm, hn])
                subst he
                clear HT hzd hD0 hn hI HP
                go_wp2_with (go_at_call 38; refine (qdig_at _ _ _ HB).mono ?_; rintro e w' ⟨rfl, rfl⟩)
                exact bodyPost_ret (v := .tuple #[.int .i64 (-n), .int .i64 p, .int .i64 0]) (by simp [results, Tryd.results39, go_sem]) rfl ⟨NumE.good HE.out rfl rfl, rfl⟩
              · have HE := Lib.hid (show numT s.data.toList = .error 6 by rw [HT.out, if_pos hv])
                subst he
                clear HT hzd hD0 hn hI HP hv
                go_wp2_with (go_at_call 38; refine (qdig_at _ _ _ HB).mono ?_; rintro e w' ⟨rfl, rfl⟩)
                exact bodyPost_ret (v := .tuple #[.int .i64 (-n), .int .i64 p, .int .i64 6]) (by simp [results, Tryd.results39, go_sem]) rfl ⟨NumE.err HE.out _ _, rfl⟩

      · have HP := Lib.hid hp
        have HD1 := Lib.hid hpk
        have HK := Lib.hid hk
        have hq : digN (dr s 1) ≤ p - 1 := by omega
        clear hpk hp hk
        · have hni := hI
          unfold NI at hni
          by_cases hD0 : p = 1
          · have HE := Lib.hid (show numT s.data.toList = .error 3 by rw [HT.out, if_pos (.inl (by have := HP.out; omega))])
            subst hD0
            clear HT
            go_wp2
            exact bodyPost_ret (v := .tuple #[.int .i64 0, .int .i64 0, .int .i64 3]) (by simp [results, Tryd.results39, go_sem]) rfl ⟨NumE.err HE.out _ _, rfl⟩
          · have hp1 : 1 < p := by omega
            have hp2 : ((p : Int) == 1) = false := by simp; omega
            have hs0 : 1 < s.size := by omega
            cases hz : ((s[1].toNat : Int) == 48) with
            | true =>
              have hzd : hd (dr s 1) 48 = true := hd_t hs0 (by simpa using hz)
              have HE := Lib.hid (show numT s.data.toList = .error 3 by rw [HT.out, if_pos (.inr hzd)])
              clear HT hzd hD0
              go_wp2
              exact bodyPost_ret (v := .tuple #[.int .i64 0, .int .i64 0, .int .i64 3]) (by simp [results, Tryd.results39, go_sem]) rfl ⟨NumE.err HE.out _ _, rfl⟩
            | false =>
              have hzd : hd (dr s 1) 48 = false := hd_f (by intro _ h; rw [beq_eq_false_iff_ne] at hz; exact hz h)
              have HT := Lib.hid (HT.out.trans (if_neg (by have := HP.out; intro h; rcases h with h | h; (· omega); (· simp [hzd] at h))))
              rcases hni with ⟨he, hn, _, _⟩ | ⟨he, hn, hv⟩
              · have HE := Lib.hid (show numT s.data.toList = .ok ((-n), p) by rw [HT.out, if_neg (by omega)]; rw [show 1 + digN (dr s 1) = p from HP.out.symm, hn])
                subst he
                clear HT hzd hD0 hn hI HP
                go_wp2
                exact bodyPost_ret (v := .tuple #[.int .i64 (-n), .int .i64 p, .int .i64 0]) (by simp [results, Tryd.results39, go_sem]) rfl ⟨NumE.good HE.out rfl rfl, rfl⟩
              · have HE := Lib.hid (show numT s.data.toList = .error 6 by rw [HT.out, if_pos hv])
                subst he
                clear HT hzd hD0 hn hI HP hv
                go_wp2
                exact bodyPost_ret (v := .tuple #[.int .i64 (-n), .int .i64 p, .int .i64 6]) (by simp [results, Tryd.results39, go_sem]) rfl ⟨NumE.err HE.out _ _, rfl⟩


set_option maxRecDepth 100000 in
set_option maxHeartbeats 4000000 in
theorem number_false (s : ByteArray) (w : World) (hs : s.size ≤ 9223372036854775000) (hb : hd s.data.toList 45 = false) :
    Calls Tryd.prog 39 #[.string s] w fun e w' => NumE s.data.toList e ∧ w = w' := by
  have HT := Lib.hid (numT_f s hb)
  have HPR := Lib.hid (show preB s.data.toList (⟨#[45]⟩ : ByteArray).data.toList = false by rw [show (⟨#[45]⟩ : ByteArray).data.toList = [45] from rfl, preB_one]; exact hb)
  have hD : 0 + digN (dr s 0) ≤ s.size := digN_bd s 0 (by omega)
  clear hb
  go_enter Tryd.func39, Tryd.ntmps39
  go_wp2_with (go_at_call 42; refine (hp_at _ _ _ _ HPR).mono ?_; rintro e w' ⟨rfl, rfl⟩)
  go_loop [6, 8, 9] (fun u x y => ∃ (p : Nat) (n e : Int), 0 ≤ p ∧ p ≤ 0 + digN (dr s 0) ∧ NI (numV ((dr s 0).take (p - 0))) n e ∧ u = .int .i64 p ∧ x = .int .i64 n ∧ y = .int .i64 e) (fun u _ _ => s.size - (intOf u).toNat)
  case atStart => exact ⟨0, 0, 0, by omega, by omega, .inl ⟨rfl, rfl, by omega, by omega⟩, rfl, rfl, rfl⟩
  case round =>
    obtain ⟨p, n, e, hpa, hpD, hI, rfl, rfl, rfl⟩ := hrel
    obtain ⟨hn0, hn1⟩ := hI.bd
    by_cases hk : p < 0 + digN (dr s 0)
    · obtain ⟨hlt, hdg⟩ := dig_at s 0 p hpa hk
      obtain ⟨hc0, hc1⟩ := digB_bd hdg
      have HB := Lib.hid hdg
      have HS := Lib.hid (show numV ((dr s 0).take (p + 1 - 0)) = capI (numV ((dr s 0).take (p - 0))) s[p] by rw [dr_snoc s 0 p hpa hlt, numV_snoc])
      clear hdg
      by_cases hbig : 9007199254740991 < n * 10 + ((s[p].toNat : Int) - 48)
      · have hI := hI.high hc0 hbig
        go_wp2_with (go_at_call 38; refine (qdig_at _ _ _ HB).mono ?_; rintro e w' ⟨rfl, rfl⟩)
        go_round
        case rel => exact ⟨p + 1, _, 6, by omega, by omega, by rw [HS.out]; exact hI, by go_num, rfl, rfl⟩
        case measure => simp [intOf] <;> omega
      · have hI := hI.low hc0 (by omega)
        go_wp2_with (go_at_call 38; refine (qdig_at _ _ _ HB).mono ?_; rintro e w' ⟨rfl, rfl⟩)
        go_round
        case rel => exact ⟨p + 1, _, e, by omega, by omega, by rw [HS.out]; exact hI, by go_num, rfl, rfl⟩
        case measure => simp [intOf] <;> omega
    · have hp : p = 0 + digN (dr s 0) := by omega
      have hpk : p - 0 = digN (dr s 0) := by omega
      rw [hpk] at hI
      by_cases hlt : p < s.size
      · have HB := Lib.hid (dig_end s 0 p hp hlt)
        have HP := Lib.hid hp
        have HD1 := Lib.hid hpk
        have HK := Lib.hid hk
        have hq : digN (dr s 0) ≤ p - 0 := by omega
        clear hpk hp hk
        · have hni := hI
          unfold NI at hni
          by_cases hD0 : p = 0
          · have HE := Lib.hid (show numT s.data.toList = .error 3 by rw [HT.out, if_pos (.inl (by have := HP.out; omega))])
            subst hD0
            clear HT
            go_wp2_with (go_at_call 38; refine (qdig_at _ _ _ HB).mono ?_; rintro e w' ⟨rfl, rfl⟩)
            exact bodyPost_ret (v := .tuple #[.int .i64 0, .int .i64 0, .int .i64 3]) (by simp [results, Tryd.results39, go_sem]) rfl ⟨NumE.err HE.out _ _, rfl⟩
          · have hp1 : 0 < p := by omega
            have hp2 : ((p : Int) == 0) = false := by simp; omega
            have hs0 : 0 < s.size := by omega
            cases hz : ((s[0].toNat : Int) == 48) with
            | true =>
              have hzd : hd (dr s 0) 48 = true := hd_t hs0 (by simpa using hz)
              by_cases hD1 : 1 < p
              · have HE := Lib.hid (show numT s.data.toList = .error 3 by rw [HT.out, if_pos (.inr ⟨hzd, by have := HP.out; omega⟩)])
                clear HT hzd hD0
                go_wp2_with (go_at_call 38; refine (qdig_at _ _ _ HB).mono ?_; rintro e w' ⟨rfl, rfl⟩)
                exact bodyPost_ret (v := .tuple #[.int .i64 0, .int .i64 0, .int .i64 3]) (by simp [results, Tryd.results39, go_sem]) rfl ⟨NumE.err HE.out _ _, rfl⟩
              · have hD2 : ¬ (1 : Int) < (p : Int) := by omega
                have HT := Lib.hid (HT.out.trans (if_neg (by have := HP.out; intro h; omega)))
                rcases hni with ⟨he, hn, _, _⟩ | ⟨he, hn, hv⟩
                · have HE := Lib.hid (show numT s.data.toList = .ok (n, p) by rw [HT.out, if_neg (by omega)]; rw [show 0 + digN (dr s 0) = p from HP.out.symm, hn])
                  subst he
                  clear HT hzd hD0 hn hI HP
                  go_wp2_with (go_at_call 38; refine (qdig_at _ _ _ HB).mono ?_; rintro e w' ⟨rfl, rfl⟩)
                  exact bodyPost_ret (v := .tuple #[.int .i64 n, .int .i64 p, .int .i64 0]) (by simp [results, Tryd.results39, go_sem]) rfl ⟨NumE.good HE.out rfl rfl, rfl⟩
                · have HE := Lib.hid (show numT s.data.toList = .error 6 by rw [HT.out, if_pos hv])
                  subst he
                  clear HT hzd hD0 hn hI HP hv
                  go_wp2_with (go_at_call 38; refine (qdig_at _ _ _ HB).mono ?_; rintro e w' ⟨rfl, rfl⟩)
                  exact bodyPost_ret (v := .tuple #[.int .i64 n, .int .i64 p, .int .i64 6]) (by simp [results, Tryd.results39, go_sem]) rfl ⟨NumE.err HE.out _ _, rfl⟩
            | false =>
              have hzd : hd (dr s 0) 48 = false := hd_f (by intro _ h; rw [beq_eq_false_iff_ne] at hz; exact hz h)
              have HT := Lib.hid (HT.out.trans (if_neg (by have := HP.out; intro h; rcases h with h | h; (· omega); (· simp [hzd] at h))))
              rcases hni with ⟨he, hn, _, _⟩ | ⟨he, hn, hv⟩
              · have HE := Lib.hid (show numT s.data.toList = .ok (n, p) by rw [HT.out, if_neg (by omega)]; rw [show 0 + digN (dr s 0) = p from HP.out.symm, hn])
                subst he
                clear HT hzd hD0 hn hI HP
                go_wp2_with (go_at_call 38; refine (qdig_at _ _ _ HB).mono ?_; rintro e w' ⟨rfl, rfl⟩)
                exact bodyPost_ret (v := .tuple #[.int .i64 n, .int .i64 p, .int .i64 0]) (by simp [results, Tryd.results39, go_sem]) rfl ⟨NumE.good HE.out rfl rfl, rfl⟩
              · have HE := Lib.hid (show numT s.data.toList = .error 6 by rw [HT.out, if_pos hv])
                subst he
                clear HT hzd hD0 hn hI HP hv
                go_wp2_with (go_at_call 38; refine (qdig_at _ _ _ HB).mono ?_; rintro e w' ⟨rfl, rfl⟩)
                exact bodyPost_ret (v := .tuple #[.int .i64 n, .int .i64 p, .int .i64 6]) (by simp [results, Tryd.results39, go_sem]) rfl ⟨NumE.err HE.out _ _, rfl⟩

      · have HP := Lib.hid hp
        have HD1 := Lib.hid hpk
        have HK := Lib.hid hk
        have hq : digN (dr s 0) ≤ p - 0 := by omega
        clear hpk hp hk
        · have hni := hI
          unfold NI at hni
          by_cases hD0 : p = 0
          · have HE := Lib.hid (show numT s.data.toList = .error 3 by rw [HT.out, if_pos (.inl (by have := HP.out; omega))])
            subst hD0
            clear HT
            go_wp2
            exact bodyPost_ret (v := .tuple #[.int .i64 0, .int .i64 0, .int .i64 3]) (by simp [results, Tryd.results39, go_sem]) rfl ⟨NumE.err HE.out _ _, rfl⟩
          · have hp1 : 0 < p := by omega
            have hp2 : ((p : Int) == 0) = false := by simp; omega
            have hs0 : 0 < s.size := by omega
            cases hz : ((s[0].toNat : Int) == 48) with
            | true =>
              have hzd : hd (dr s 0) 48 = true := hd_t hs0 (by simpa using hz)
              by_cases hD1 : 1 < p
              · have HE := Lib.hid (show numT s.data.toList = .error 3 by rw [HT.out, if_pos (.inr ⟨hzd, by have := HP.out; omega⟩)])
                clear HT hzd hD0
                go_wp2
                exact bodyPost_ret (v := .tuple #[.int .i64 0, .int .i64 0, .int .i64 3]) (by simp [results, Tryd.results39, go_sem]) rfl ⟨NumE.err HE.out _ _, rfl⟩
              · have hD2 : ¬ (1 : Int) < (p : Int) := by omega
                have HT := Lib.hid (HT.out.trans (if_neg (by have := HP.out; intro h; omega)))
                rcases hni with ⟨he, hn, _, _⟩ | ⟨he, hn, hv⟩
                · have HE := Lib.hid (show numT s.data.toList = .ok (n, p) by rw [HT.out, if_neg (by omega)]; rw [show 0 + digN (dr s 0) = p from HP.out.symm, hn])
                  subst he
                  clear HT hzd hD0 hn hI HP
                  go_wp2
                  exact bodyPost_ret (v := .tuple #[.int .i64 n, .int .i64 p, .int .i64 0]) (by simp [results, Tryd.results39, go_sem]) rfl ⟨NumE.good HE.out rfl rfl, rfl⟩
                · have HE := Lib.hid (show numT s.data.toList = .error 6 by rw [HT.out, if_pos hv])
                  subst he
                  clear HT hzd hD0 hn hI HP hv
                  go_wp2
                  exact bodyPost_ret (v := .tuple #[.int .i64 n, .int .i64 p, .int .i64 6]) (by simp [results, Tryd.results39, go_sem]) rfl ⟨NumE.err HE.out _ _, rfl⟩
            | false =>
              have hzd : hd (dr s 0) 48 = false := hd_f (by intro _ h; rw [beq_eq_false_iff_ne] at hz; exact hz h)
              have HT := Lib.hid (HT.out.trans (if_neg (by have := HP.out; intro h; rcases h with h | h; (· omega); (· simp [hzd] at h))))
              rcases hni with ⟨he, hn, _, _⟩ | ⟨he, hn, hv⟩
              · have HE := Lib.hid (show numT s.data.toList = .ok (n, p) by rw [HT.out, if_neg (by omega)]; rw [show 0 + digN (dr s 0) = p from HP.out.symm, hn])
                subst he
                clear HT hzd hD0 hn hI HP
                go_wp2
                exact bodyPost_ret (v := .tuple #[.int .i64 n, .int .i64 p, .int .i64 0]) (by simp [results, Tryd.results39, go_sem]) rfl ⟨NumE.good HE.out rfl rfl, rfl⟩
              · have HE := Lib.hid (show numT s.data.toList = .error 6 by rw [HT.out, if_pos hv])
                subst he
                clear HT hzd hD0 hn hI HP hv
                go_wp2
                exact bodyPost_ret (v := .tuple #[.int .i64 n, .int .i64 p, .int .i64 6]) (by simp [results, Tryd.results39, go_sem]) rfl ⟨NumE.err HE.out _ _, rfl⟩


theorem lexnumber_any (s : ByteArray) (w : World) (hs : s.size ≤ 9223372036854775000) :
    Calls Tryd.prog 39 #[.string s] w fun e w' => NumE s.data.toList e ∧ w = w' := by
  cases hb : hd s.data.toList 45 with
  | true => exact number_true s w hs hb
  | false => exact number_false s w hs hb


end Go.Proofs.YtmopeandckmgcaaDoor
