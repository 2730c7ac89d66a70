/- qlex: digit, letter, nameLen, numberOf. -/
import Derived.Test.YtihfhohdnjbahaaDoorWe
import Derived.Test.YtihfhohdnjbahaaDoorUp
namespace Go.Proofs.YtihfhohdnjbahaaDoor
open Go.RowKit

set_option maxHeartbeats 400000 in
theorem qdig_any (c : Int) (w : World) :
    Calls Tryd.prog 20 #[.int .u8 c] w fun e w' => e = .returned (.bool (digB c)) ∧ w = w' := by
  unfold digB
  go_enter Tryd.func20, Tryd.ntmps20
  go_wp2
  all_goals (go_ret; exact ⟨ret_bool (by refine Bool.eq_iff_iff.2 ?_; simp <;> omega), rfl⟩)
theorem qdig_at (c : Int) (b : Bool) (w : World) (h : Hid (digB c = b)) :
    Calls Tryd.prog 20 #[.int .u8 c] w fun e w' => e = .returned (.bool b) ∧ w = w' := by
  rw [← h.out]; exact qdig_any c w
theorem uscal_at (s : ByteArray) (c n : Int) (w : World) (hs : s.size ≤ maxLen) (h : Hid (scalV s.data.toList = (c, n))) :
    Calls Tryd.prog 32 #[.string s] w fun e w' => e = .returned (.tuple #[.int .i64 c, .int .i64 n]) ∧ w = w' := by
  have := uscal_any s w hs
  rw [h.out] at this; exact this

set_option maxRecDepth 100000 in
set_option maxHeartbeats 1000000 in
theorem letter_any (s : ByteArray) (w : World) (hs : s.size ≤ maxLen) :
    Calls Tryd.prog 38 #[.string s] w fun e w' => e = .returned (.int .i64 (letL s.data.toList : Nat)) ∧ w = w' := by
  have hb := scalV_len s.data.toList
  obtain ⟨c, n, hcn⟩ : ∃ c n, scalV s.data.toList = (c, n) := ⟨_, _, rfl⟩
  have HE := Lib.hid (show letL s.data.toList = if isLet c && decide (0 < n) then n.toNat else 0 by rw [letL, hcn])
  rw [hcn] at hb
  obtain ⟨h0, _, h1⟩ := hb
  simp only at h0 h1
  have HS := Lib.hid hcn
  clear hcn
  go_enter Tryd.func38, Tryd.ntmps38
  go_wp2_with (go_at_call 32; refine (uscal_at _ _ _ _ hs HS).mono ?_; rintro e w' ⟨rfl, rfl⟩)
  all_goals
    go_ret
    exact ⟨ret_int (by
      rw [HE.out]; unfold isLet
      (try simp only [beq_iff_eq, beq_eq_false_iff_ne, ne_eq, decide_eq_true_eq, Bool.or_eq_true, Bool.and_eq_true] at *)
      split <;> omega), rfl⟩
theorem letter_at (s : ByteArray) (m : Nat) (w : World) (hs : s.size ≤ maxLen) (h : Hid (letL s.data.toList = m)) :
    Calls Tryd.prog 38 #[.string s] w fun e w' => e = .returned (.int .i64 m) ∧ w = w' := by
  rw [← h.out]; exact letter_any s w hs

set_option maxRecDepth 100000 in
set_option maxHeartbeats 2000000 in
theorem nameLen_any (s : ByteArray) (w : World) (hs : s.size ≤ 9223372036854775000) :
    Calls Tryd.prog 22 #[.string s] w fun e w' => e = .returned (.int .i64 (nameL s.data.toList : Nat)) ∧ w = w' := by
  obtain ⟨m, hm⟩ : ∃ m, letL s.data.toList = m := ⟨_, rfl⟩
  have hml : m ≤ s.size := by rw [← hm, ← len_toList]; exact letL_le _
  have HN := Lib.hid (show nameL s.data.toList = if m = 0 then 0 else m + namF s.size (dr s m) by rw [nameL, hm, len_toList]; rfl)
  have HM := Lib.hid hm
  clear hm
  have hsx : s.size ≤ maxLen := by unfold maxLen; omega
  by_cases h0 : m = 0
  · have HE := Lib.hid (show nameL s.data.toList = 0 by rw [HN.out, if_pos h0])
    subst h0
    clear HN
    go_enter Tryd.func22, Tryd.ntmps22
    go_wp2_with (go_at_call 38; refine (letter_at _ _ _ hsx HM).mono ?_; rintro e w' ⟨rfl, rfl⟩)
    go_loop [3] (fun v => v = .int .i64 0) (fun _ => 0)
    case atStart => rfl
    case round =>
      obtain rfl := hrel
      go_wp2
      go_ret
      exact ⟨ret_int (by rw [HE.out]; rfl), rfl⟩
  · have hm0 : 0 < m := by omega
    have HE := Lib.hid (show nameL s.data.toList = m + namF s.size (dr s m) by rw [HN.out, if_neg h0])
    clear h0 HN
    go_enter Tryd.func22, Tryd.ntmps22
    go_wp2_with (go_at_call 38; refine (letter_at _ _ _ hsx HM).mono ?_; rintro e w' ⟨rfl, rfl⟩)
    go_loop [3] (fun v => ∃ p f : Nat, 0 < p ∧ p ≤ s.size ∧ s.size ≤ p + f ∧ v = .int .i64 p ∧ Hid (nameL s.data.toList = p + namF f (dr s p))) (fun v => s.size - (intOf v).toNat)
    case atStart => exact ⟨m, s.size, hm0, hml, by omega, rfl, HE⟩
    case round =>
      obtain ⟨p, f, hp0, hp, hf, rfl, HP⟩ := hrel
      by_cases hlt : p < s.size
      · obtain ⟨k, hk⟩ : ∃ k, letL (dr s p) = k := ⟨_, rfl⟩
        have HK := Lib.hid (show letL (s.extract p s.size).data.toList = k by rw [ext_drop]; exact hk)
        have hkl : p + k ≤ s.size := by have := letL_le (dr s p); rw [hk, dr, List.length_drop, len_toList] at this; omega
        have hes : (s.extract p s.size).size ≤ maxLen := by simp; unfold maxLen; omega
        have hxr : letR (dr s p) = if k = 0 then (if isDig s[p] then 1 else 0) else k := by
          unfold letR; rw [hk, dr, drop_cons s p hlt]
        have hbi := s[p].toNat_lt
        obtain ⟨f', rfl⟩ : ∃ f', f = f' + 1 := ⟨f - 1, by omega⟩
        by_cases hk0 : k = 0
        · rw [if_pos hk0] at hxr
          have HK0 := Lib.hid hk0
          cases hb : digB (s[p].toNat : Int) with
          | true =>
            rw [digB_eq] at hb
            rw [if_pos hb] at hxr
            have HP := Lib.hid (show nameL s.data.toList = (p + 1 : Nat) + namF f' (dr s (p + 1)) by rw [HP.out, namF_go f' _ 1 hxr (by omega), dr_dr]; omega)
            have HB := Lib.hid (show digB (s[p].toNat : Int) = true by rw [digB_eq]; exact hb)
            subst hk0
            clear hb hxr hk
            go_wp2_with (first | (go_at_call 38; refine (letter_at _ _ _ hes HK).mono ?_; rintro e w' ⟨rfl, rfl⟩) | (go_at_call 20; refine (qdig_at _ _ _ HB).mono ?_; rintro e w' ⟨rfl, rfl⟩))
            go_round
            case rel => exact ⟨p + 1, f', by omega, by omega, by omega, by go_num, HP⟩
            case measure => simp [intOf] <;> omega
          | false =>
            rw [digB_eq] at hb
            have HP := Lib.hid (show nameL s.data.toList = p by rw [HP.out, namF_stop _ _ (by rw [hxr, hb]; rfl)]; rfl)
            have HB := Lib.hid (show digB (s[p].toNat : Int) = false by rw [digB_eq]; exact hb)
            subst hk0
            clear hb hxr hk
            go_wp2_with (first | (go_at_call 38; refine (letter_at _ _ _ hes HK).mono ?_; rintro e w' ⟨rfl, rfl⟩) | (go_at_call 20; refine (qdig_at _ _ _ HB).mono ?_; rintro e w' ⟨rfl, rfl⟩))
            go_ret
            exact ⟨ret_int (by rw [HP.out]), rfl⟩
        · have hk1 : 0 < k := by omega
          rw [if_neg hk0] at hxr
          have HP := Lib.hid (show nameL s.data.toList = (p + k : Nat) + namF f' (dr s (p + k)) by rw [HP.out, namF_go f' _ k hxr hk0, dr_dr]; omega)
          have hk2 : ((k : Int) == 0) = false := by simp; omega
          clear hk0 hxr hk
          go_wp2_with (first | (go_at_call 38; refine (letter_at _ _ _ hes HK).mono ?_; rintro e w' ⟨rfl, rfl⟩))
          go_round
          case rel => exact ⟨p + k, f', by omega, by omega, by omega, by go_num, HP⟩
          case measure => simp [intOf] <;> omega
      · have HP := Lib.hid (show nameL s.data.toList = p by rw [HP.out, namF_stop _ _ (by rw [dr, drop_nil s p (by omega)]; exact letR_nil)]; rfl)
        go_wp2
        go_ret
        exact ⟨ret_int (by rw [HP.out]), rfl⟩

end Go.Proofs.YtihfhohdnjbahaaDoor
