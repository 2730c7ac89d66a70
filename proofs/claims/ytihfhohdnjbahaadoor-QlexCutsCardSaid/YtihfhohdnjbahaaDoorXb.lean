/- ref16: hex, unit. -/
import Derived.Test.YtihfhohdnjbahaaDoorUp
namespace Go.Proofs.YtihfhohdnjbahaaDoor
open Go.RowKit

theorem hexI (c : UInt8) : uval (hexV c) = if 48 ≤ (c.toNat : Int) ∧ (c.toNat : Int) ≤ 57 then (c.toNat : Int) - 48 else if 97 ≤ (c.toNat : Int) ∧ (c.toNat : Int) ≤ 102 then (c.toNat : Int) - 87 else if 65 ≤ (c.toNat : Int) ∧ (c.toNat : Int) ≤ 70 then (c.toNat : Int) - 55 else -1 := by
  unfold hexV uval
  by_cases h1 : 48 ≤ c.toNat ∧ c.toNat ≤ 57
  · rw [if_pos h1, if_pos (show (48 ≤ (c.toNat : Int) ∧ (c.toNat : Int) ≤ 57) by omega)]; rfl
  · rw [if_neg h1, if_neg (show ¬ (48 ≤ (c.toNat : Int) ∧ (c.toNat : Int) ≤ 57) by omega)]
    by_cases h2 : 97 ≤ c.toNat ∧ c.toNat ≤ 102
    · rw [if_pos h2, if_pos (show (97 ≤ (c.toNat : Int) ∧ (c.toNat : Int) ≤ 102) by omega)]; rfl
    · rw [if_neg h2, if_neg (show ¬ (97 ≤ (c.toNat : Int) ∧ (c.toNat : Int) ≤ 102) by omega)]
      by_cases h3 : 65 ≤ c.toNat ∧ c.toNat ≤ 70
      · rw [if_pos h3, if_pos (show (65 ≤ (c.toNat : Int) ∧ (c.toNat : Int) ≤ 70) by omega)]; rfl
      · rw [if_neg h3, if_neg (show ¬ (65 ≤ (c.toNat : Int) ∧ (c.toNat : Int) ≤ 70) by omega)]; rfl
theorem uval_bd (c : UInt8) : -1 ≤ uval (hexV c) ∧ uval (hexV c) < 16 := by
  rw [hexI]; (repeat' split) <;> omega

set_option maxHeartbeats 400000 in
theorem rhex_any (c : UInt8) (w : World) :
    Calls Tryd.prog 58 #[.int .u8 (c.toNat : Int)] w fun e w' => e = .returned (.int .i64 (uval (hexV c))) ∧ w = w' := by
  have hc := c.toNat_lt
  have HE := Lib.hid (hexI c)
  go_enter Tryd.func58, Tryd.ntmps58
  go_wp2
  all_goals (go_ret; exact ⟨ret_int (by rw [HE.out]; (repeat' split) <;> omega), rfl⟩)
theorem rhex_at (c : UInt8) (d : Int) (w : World) (h : Hid (uval (hexV c) = d)) :
    Calls Tryd.prog 58 #[.int .u8 (c.toNat : Int)] w fun e w' => e = .returned (.int .i64 d) ∧ w = w' := by
  rw [← h.out]; exact rhex_any c w

/-- 5c, u and four digits. -/
def runitV (l : List UInt8) : Option Int := if hd l 92 && hd (l.drop 1) 117 then unitV (l.drop 2) else none
theorem runitV_bd (l : List UInt8) : -1 ≤ uval (runitV l) ∧ uval (runitV l) < 65536 := by
  unfold runitV
  split
  · cases h : unitV (l.drop 2) with
    | none => unfold uval; simp
    | some a => have := unitV_bd h; unfold uval; simp; omega
  · unfold uval; simp

set_option maxRecDepth 100000 in
set_option maxHeartbeats 2000000 in
theorem runit_at (s : ByteArray) (a : Nat) (u : Int) (w : World) (hs : s.size ≤ 1000000) (ha : a ≤ s.size + 6) (h : Hid (uval (runitV (dr s a)) = u)) :
    Calls Tryd.prog 51 #[.string s, .int .i64 (a : Int)] w fun e w' => e = .returned (.int .i64 u) ∧ w = w' := by
  by_cases h6 : s.size < a + 6
  · have HE := Lib.hid (show u = -1 by
      rw [← h.out]; unfold runitV
      simp only [dr_dr]
      rw [unit_short (dr s (a + 2)) (by unfold dr; rw [List.length_drop, len_toList]; omega)]
      split <;> rfl)
    have h6' : (s.size : Int) - (a : Int) < 6 := by omega
    clear h6
    go_enter Tryd.func51, Tryd.ntmps51
    go_wp2
    go_ret
    exact ⟨ret_int (by rw [HE.out]), rfl⟩
  · have h6' : ¬ (s.size : Int) - (a : Int) < 6 := by omega
    have e0 : dr s a = s[a] :: dr s (a + 1) := drop_cons s a (by omega)
    have e1 : dr s (a + 1) = s[a + 1] :: dr s (a + 2) := drop_cons s (a + 1) (by omega)
    have hb0 := s[a].toNat_lt
    have hb1 := s[a + 1].toNat_lt
    by_cases c0 : s[a] = 92
    · by_cases c1 : s[a + 1] = 117
      · have t0 : ((s[a].toNat : Int) != 92) = false := by rw [c0]; rfl
        have t1 : ((s[a + 1].toNat : Int) != 117) = false := by rw [c1]; rfl
        have HU := Lib.hid (show u = uval (hexF 4 (dr s (a + 2)) 0) by
          rw [← h.out, ← unit_hexF _ (by unfold dr; rw [List.length_drop, len_toList]; omega)]
          unfold runitV
          simp only [dr_dr]
          rw [e0, e1]
          rw [if_pos (by rw [c0, c1]; rfl)])
        clear c0 c1 e0 e1
        go_enter Tryd.func51, Tryd.ntmps51
        go_wp2
        go_loop [5, 6] (fun x v => ∃ (i : Nat) (n : Int), 2 ≤ i ∧ i ≤ 6 ∧ 0 ≤ n ∧ ((i = 2 ∧ n < 1) ∨ (i = 3 ∧ n < 16) ∨ (i = 4 ∧ n < 256) ∨ (i = 5 ∧ n < 4096) ∨ (i = 6 ∧ n < 65536)) ∧ Hid (u = uval (hexF (6 - i) (dr s (a + i)) n)) ∧ x = .int .i64 n ∧ v = .int .i64 i) (fun _ v => 6 - (intOf v).toNat)
        case atStart => exact ⟨2, 0, by omega, by omega, by omega, .inl ⟨rfl, by omega⟩, HU, rfl, rfl⟩
        case round =>
          clear HU
          obtain ⟨i, n, hi2, hi, hn0, hn, HF, rfl, rfl⟩ := hrel
          have HN := Lib.hid hn
          have hn1 : n < 65536 := by omega
          clear hn
          by_cases hlt : i < 6
          · have hlt2 : a + i < s.size := by omega
            have hbi := s[a + i].toNat_lt
            obtain ⟨d, hd⟩ : ∃ d, uval (hexV s[a + i]) = d := ⟨_, rfl⟩
            obtain ⟨hd0, hd1⟩ := uval_bd s[a + i]
            rw [hd] at hd0 hd1
            have hstep : hexF (6 - i) (dr s (a + i)) n = match hexV s[a + i] with | some d => hexF (6 - (i + 1)) (dr s (a + (i + 1))) (n * 16 + d) | none => none := by
              rw [show 6 - i = (6 - (i + 1)) + 1 by omega, show dr s (a + i) = s[a + i] :: dr s (a + i + 1) from drop_cons s (a + i) hlt2]; rfl
            have HD := Lib.hid hd
            by_cases h1 : d < 0
            · have HE := Lib.hid (show u = -1 by
                rw [HF.out, hstep]
                cases hx : hexV s[a + i] with
                | none => rfl
                | some y => rw [hx] at hd; have := hexV_bd hx; unfold uval at hd; simp at hd; omega)
              clear hstep hd HF
              go_wp2_with (go_at_call 58; refine (rhex_at _ _ _ HD).mono ?_; rintro e w' ⟨rfl, rfl⟩)
              go_ret
              exact ⟨ret_int (by rw [HE.out]), rfl⟩
            · have HF := Lib.hid (show u = uval (hexF (6 - (i + 1)) (dr s (a + (i + 1))) (n * 16 + d)) by
                rw [HF.out, hstep]
                cases hx : hexV s[a + i] with
                | none => rw [hx] at hd; unfold uval at hd; simp at hd; omega
                | some y => rw [hx] at hd; unfold uval at hd; simp at hd; rw [hd])
              have h3 : 0 ≤ d := by omega
              have HN2 := Lib.hid (show (i + 1 = 2 ∧ n * 16 + d < 1) ∨ (i + 1 = 3 ∧ n * 16 + d < 16) ∨ (i + 1 = 4 ∧ n * 16 + d < 256) ∨ (i + 1 = 5 ∧ n * 16 + d < 4096) ∨ (i + 1 = 6 ∧ n * 16 + d < 65536) by have := HN.out; omega)
              clear hstep hd
              go_wp2_with (go_at_call 58; refine (rhex_at _ _ _ HD).mono ?_; rintro e w' ⟨rfl, rfl⟩)
              go_round
              case rel => exact ⟨i + 1, n * 16 + d, by omega, by omega, by omega, HN2.out, HF, rfl, by go_num⟩
              case measure => simp [intOf] <;> omega
          · have HE := Lib.hid (show u = n by rw [HF.out, show 6 - i = 0 by omega]; rfl)
            go_wp2
            go_ret
            exact ⟨ret_int (by rw [HE.out]), rfl⟩
      · have t0 : ((s[a].toNat : Int) != 92) = false := by rw [c0]; rfl
        have t1 : ((s[a + 1].toNat : Int) != 117) = true := by rw [bne_iff_ne]; intro e; apply c1; rw [← UInt8.toNat_inj]; simp; omega
        have HE := Lib.hid (show u = -1 by
          rw [← h.out]; unfold runitV
          simp only [dr_dr]
          rw [e0, e1, if_neg]
          · rfl
          · simp [hd, c1])
        clear c0 c1 e0 e1
        go_enter Tryd.func51, Tryd.ntmps51
        go_wp2
        go_ret
        exact ⟨ret_int (by rw [HE.out]), rfl⟩
    · have t0 : ((s[a].toNat : Int) != 92) = true := by rw [bne_iff_ne]; intro e; apply c0; rw [← UInt8.toNat_inj]; simp; omega
      have HE := Lib.hid (show u = -1 by
        rw [← h.out]; unfold runitV
        simp only [dr_dr]
        rw [e0, if_neg]
        · rfl
        · simp [hd, c0])
      clear c0 e0 e1
      go_enter Tryd.func51, Tryd.ntmps51
      go_wp2
      go_ret
      exact ⟨ret_int (by rw [HE.out]), rfl⟩

end Go.Proofs.YtihfhohdnjbahaaDoor
