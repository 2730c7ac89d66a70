/- utf.Scalar: the program's. -/
import Derived.Test.YtpcbcodmocmilaaGreatDoorG25
namespace Go.Proofs.YtpcbcodmocmilaaGreatDoor
open Go.RowKit

theorem ret2_int {a b c d : Int} (h : (a, b) = (c, d)) : Ending.returned (.tuple #[.int .i64 a, .int .i64 b]) = .returned (.tuple #[.int .i64 c, .int .i64 d]) := by cases h; rfl
theorem ustep_at (st b t : Int) (w : World) (h0 : 0 ≤ b) (h1 : b < 256) (h2 : 0 ≤ st) (h3 : st ≤ 8) (ht : Hid (ustep st b = t)) :
    Calls Tryz.prog 117 #[.int .i64 st, .int .u8 b] w fun e w' => e = .returned (.int .i64 t) ∧ w = w' := by
  rw [← ht.out]; exact ustep_any st b w h0 h1 h2 h3
theorem ulead_at (b t : Int) (w : World) (h0 : 0 ≤ b) (h1 : b < 256) (ht : Hid (ulead b = t)) :
    Calls Tryz.prog 118 #[.int .u8 b] w fun e w' => e = .returned (.int .i64 t) ∧ w = w' := by
  rw [← ht.out]; exact ulead_any b w h0 h1
theorem us_n0 (b : Int) : ustep 0 b = 8 ∨ (ustep 0 b = 0 ∧ b < 128) ∨ (194 ≤ b ∧ 1 ≤ ustep 0 b ∧ ustep 0 b ≤ 7) := by unfold ustep ufirst; (repeat' split) <;> omega
theorem us_n1 (st b : Int) (h : 1 ≤ st ∧ st ≤ 7) : ustep st b = 8 ∨ ustep st b = 0 ∨ ustep st b = 1 ∨ ustep st b = 2 := by unfold ustep; (repeat' split) <;> omega
theorem us_n2 (st b : Int) (h : st = 1 ∨ st = 2) : ustep st b = 8 ∨ ustep st b = 0 ∨ ustep st b = 1 := by unfold ustep; (repeat' split) <;> omega
theorem us_n3 (st b : Int) (h : st = 1) : ustep st b = 8 ∨ ustep st b = 0 := by unfold ustep; (repeat' split) <;> omega
/-- What is known between two bytes of a scalar. -/
def SCI (i : Nat) (st c : Int) : Prop := (i = 0 ∧ st = 0 ∧ c = 0) ∨ (i = 1 ∧ (1 ≤ st ∧ st ≤ 7) ∧ 0 ≤ c ∧ c < 64) ∨ (i = 2 ∧ (st = 1 ∨ st = 2) ∧ 0 ≤ c ∧ c < 4096) ∨ (i = 3 ∧ st = 1 ∧ 0 ≤ c ∧ c < 262144)
theorem SCI.next {i : Nat} {st c b t : Int} (h : SCI i st c) (hi : 0 < i) (ht : ustep st b = t) (h8 : t ≠ 8) (h0 : t ≠ 0) : SCI (i + 1) t (c * 64 + b % 64) := by
  subst ht
  unfold SCI at *
  rcases h with h | h | h | h
  · omega
  · have := us_n1 st b h.2.1; omega
  · have := us_n2 st b h.2.1; omega
  · have := us_n3 st b h.2.1; omega
theorem SCI.bd {i : Nat} {st c : Int} (h : SCI i st c) : 0 ≤ st ∧ st ≤ 8 ∧ 0 ≤ c ∧ c < 262144 ∧ i ≤ 3 := by unfold SCI at h; omega

set_option maxRecDepth 100000 in
set_option maxHeartbeats 4000000 in
theorem uscal_any (s : ByteArray) (w : World) (hs : s.size ≤ maxLen) :
    Calls Tryz.prog 97 #[.string s] w fun e w' => e = .returned (.tuple #[.int .i64 (scalV s.data.toList).1, .int .i64 (scalV s.data.toList).2]) ∧ w = w' := by
  have hs := id hs
  unfold maxLen at hs
  have HV := Lib.hid (usc_scal s.data.toList)
  go_enter Tryz.func97, Tryz.ntmps97
  go_wp2
  go_loop [4, 5, 10] (fun t u v => ∃ (i : Nat) (st c : Int), i ≤ s.size ∧ SCI i st c ∧ Hid (uscF s.data.toList 0 0 0 = uscF (dr s i) i st c) ∧ t = .int .i64 st ∧ u = .int .i64 c ∧ v = .int .i64 i) (fun _ _ v => s.size - (intOf v).toNat)
  case atStart => exact ⟨0, 0, 0, Nat.zero_le _, .inl ⟨rfl, rfl, rfl⟩, Lib.hid rfl, rfl, rfl, rfl⟩
  case round =>
    obtain ⟨i, st, c, hi, hI, HR, rfl, rfl, rfl⟩ := hrel
    obtain ⟨hb1, hb2, hb3, hb4, hb5⟩ := hI.bd
    by_cases hlt : i < s.size
    · have hb := s[i].toNat_lt
      obtain ⟨t, ht⟩ : ∃ t, ustep st s[i].toNat = t := ⟨_, rfl⟩
      have hdc : dr s i = s[i] :: dr s (i + 1) := drop_cons s i hlt
      by_cases h8 : t = 8
      · have HE := Lib.hid (show scalV s.data.toList = (0, 0) by rw [← HV.out, HR.out, hdc, uscF_dead _ _ _ _ _ (ht.trans h8)])
        subst h8
        have HT := Lib.hid ht
        clear ht hdc HV HR
        go_wp2_with (go_at_call 117; refine (ustep_at _ _ _ _ (by omega) (by omega) (by omega) (by omega) HT).mono ?_; rintro e w' ⟨rfl, rfl⟩)
        go_ret2
        exact ⟨ret2_int (by rw [HE.out]), rfl⟩
      · have k8 : (t == 8) = false := by simpa using h8
        by_cases hi0 : i = 0
        · have HI0 := Lib.hid hi0
          have hst : st = 0 := by unfold SCI at hI; omega
          have hc : c = 0 := by unfold SCI at hI; omega
          subst hst hc
          have hn := us_n0 s[i].toNat
          rw [ht] at hn
          by_cases h0 : t = 0
          · have HE := Lib.hid (show scalV s.data.toList = ((s[i].toNat : Int), (i : Int) + 1) by
              rw [← HV.out, HR.out, hdc, uscF_end _ _ _ _ _ (ht.trans h0), uadd, if_neg (by omega), if_pos (by omega)])
            have hl : (s[i].toNat : Int) < 128 := by omega
            subst h0
            have HT := Lib.hid ht
            have hi0' : decide (0 < i) = false := by simpa using hi0
            clear ht hdc HV HR h8 hi0
            go_wp2_with (go_at_call 117; refine (ustep_at _ _ _ _ (by omega) (by omega) (by omega) (by omega) HT).mono ?_; rintro e w' ⟨rfl, rfl⟩)
            go_ret2
            exact ⟨ret2_int (by rw [HE.out]), rfl⟩
          · have k0 : (t == 0) = false := by simpa using h0
            have hl : 194 ≤ (s[i].toNat : Int) := by omega
            have ht7 : 1 ≤ t ∧ t ≤ 7 := by omega
            have HN := Lib.hid (uscF_go s[i] (dr s (i + 1)) i 0 0 t ht h0 h8)
            have hi0' : decide (0 < i) = false := by simpa using hi0
            have HT := Lib.hid ht
            clear ht hn h8 h0
            by_cases hx : (s[i].toNat : Int) < 224
            · have HL := Lib.hid (show ulead s[i].toNat = 1 by unfold ulead; (repeat' split) <;> omega)
              have ha : bits .and .i64 (s[i].toNat : Int) 31 = (s[i].toNat : Int) % 32 := and31 _ (by omega) (by omega)
              have HR := Lib.hid (show uscF s.data.toList 0 0 0 = uscF (dr s (i + 1)) (i + 1) t ((s[i].toNat : Int) % 32) by
                rw [HR.out, hdc, HN.out, uadd, if_neg (by omega), if_neg (by omega), if_neg (by omega), if_neg (by omega)])
              clear hdc HN hi0
              go_wp2_with (first | (go_at_call 117; refine (ustep_at _ _ _ _ (by omega) (by omega) (by omega) (by omega) HT).mono ?_; rintro e w' ⟨rfl, rfl⟩) | (go_at_call 118; refine (ulead_at _ _ _ (by omega) (by omega) HL).mono ?_; rintro e w' ⟨rfl, rfl⟩))
              go_round
              case rel => exact ⟨i + 1, t, _, by omega, .inr (.inl ⟨by rw [HI0.out], ht7, by omega, by omega⟩), HR, rfl, by go_num, by go_num⟩
              case measure => simp [intOf]; omega
            · by_cases hx2 : (s[i].toNat : Int) < 240
              · have HL := Lib.hid (show ulead s[i].toNat = 2 by unfold ulead; (repeat' split) <;> omega)
                have ha : bits .and .i64 (s[i].toNat : Int) 15 = (s[i].toNat : Int) % 16 := and15 _ (by omega) (by omega)
                have HR := Lib.hid (show uscF s.data.toList 0 0 0 = uscF (dr s (i + 1)) (i + 1) t ((s[i].toNat : Int) % 16) by
                  rw [HR.out, hdc, HN.out, uadd, if_neg (by omega), if_neg (by omega), if_neg (by omega), if_pos (by omega)])
                clear hdc HN hi0
                go_wp2_with (first | (go_at_call 117; refine (ustep_at _ _ _ _ (by omega) (by omega) (by omega) (by omega) HT).mono ?_; rintro e w' ⟨rfl, rfl⟩) | (go_at_call 118; refine (ulead_at _ _ _ (by omega) (by omega) HL).mono ?_; rintro e w' ⟨rfl, rfl⟩))
                go_round
                case rel => exact ⟨i + 1, t, _, by omega, .inr (.inl ⟨by rw [HI0.out], ht7, by omega, by omega⟩), HR, rfl, by go_num, by go_num⟩
                case measure => simp [intOf]; omega
              · have HL := Lib.hid (show ulead s[i].toNat = 3 by unfold ulead; (repeat' split) <;> omega)
                have ha : bits .and .i64 (s[i].toNat : Int) 7 = (s[i].toNat : Int) % 8 := and7 _ (by omega) (by omega)
                have HR := Lib.hid (show uscF s.data.toList 0 0 0 = uscF (dr s (i + 1)) (i + 1) t ((s[i].toNat : Int) % 8) by
                  rw [HR.out, hdc, HN.out, uadd, if_neg (by omega), if_neg (by omega), if_pos (by omega)])
                clear hdc HN hi0
                go_wp2_with (first | (go_at_call 117; refine (ustep_at _ _ _ _ (by omega) (by omega) (by omega) (by omega) HT).mono ?_; rintro e w' ⟨rfl, rfl⟩) | (go_at_call 118; refine (ulead_at _ _ _ (by omega) (by omega) HL).mono ?_; rintro e w' ⟨rfl, rfl⟩))
                go_round
                case rel => exact ⟨i + 1, t, _, by omega, .inr (.inl ⟨by rw [HI0.out], ht7, by omega, by omega⟩), HR, rfl, by go_num, by go_num⟩
                case measure => simp [intOf]; omega
        · have hi1 : 0 < i := by omega
          have ha : bits .and .i64 (s[i].toNat : Int) 63 = (s[i].toNat : Int) % 64 := and63 _ (by omega) (by omega)
          have ho : bits .or .i64 (c * 64) ((s[i].toNat : Int) % 64) = c * 64 + (s[i].toNat : Int) % 64 := orI 6 _ _ (by omega) (by omega) (by omega) (by omega) (by omega) (by omega)
          by_cases h0 : t = 0
          · have HE := Lib.hid (show scalV s.data.toList = (c * 64 + (s[i].toNat : Int) % 64, (i : Int) + 1) by
              rw [← HV.out, HR.out, hdc, uscF_end _ _ _ _ _ (ht.trans h0), uadd, if_pos hi1])
            subst h0
            have HT := Lib.hid ht
            clear ht hdc HV HR h8
            go_wp2_with (go_at_call 117; refine (ustep_at _ _ _ _ (by omega) (by omega) (by omega) (by omega) HT).mono ?_; rintro e w' ⟨rfl, rfl⟩)
            go_ret2
            exact ⟨ret2_int (by rw [HE.out]), rfl⟩
          · have k0 : (t == 0) = false := by simpa using h0
            have hI' := hI.next hi1 ht h8 h0
            have HR := Lib.hid (show uscF s.data.toList 0 0 0 = uscF (dr s (i + 1)) (i + 1) t (c * 64 + (s[i].toNat : Int) % 64) by
              rw [HR.out, hdc, uscF_go _ _ _ _ _ t ht h0 h8, uadd, if_pos hi1])
            have HT := Lib.hid ht
            clear ht hdc h8 h0
            go_wp2_with (go_at_call 117; refine (ustep_at _ _ _ _ (by omega) (by omega) (by omega) (by omega) HT).mono ?_; rintro e w' ⟨rfl, rfl⟩)
            go_round
            case rel => exact ⟨i + 1, t, _, by omega, hI', HR, rfl, by go_num, by go_num⟩
            case measure => simp [intOf]; omega
    · have HE := Lib.hid (show scalV s.data.toList = (0, 0) by rw [← HV.out, HR.out, show dr s i = [] from drop_nil s i (by omega)]; rfl)
      clear HV HR
      go_wp2
      go_ret2
      exact ⟨ret2_int (by rw [HE.out]), rfl⟩

end Go.Proofs.YtpcbcodmocmilaaGreatDoor
