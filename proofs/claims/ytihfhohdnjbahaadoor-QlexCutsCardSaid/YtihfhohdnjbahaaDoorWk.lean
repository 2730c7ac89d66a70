/- qlex: char (text's closure), text. -/
import Derived.Test.YtihfhohdnjbahaaDoorWj
import Derived.Test.YtihfhohdnjbahaaDoorWf
import Derived.Deep.QuietTactic
namespace Go.Proofs.YtihfhohdnjbahaaDoor
open Go.RowKit

theorem escaped_q (c mark : UInt8) (u : Int) (w : World) (h : Hid (uval (escV mark c) = u)) :
    Calls Tryd.prog 34 #[.int .u8 (c.toNat : Int), .int .u8 (mark.toNat : Int)] w fun e w' => e = .returned (.int .i64 u) ∧ w' = w := by
  rw [← h.out]; exact (escaped_any c mark w).mono fun _ _ ⟨h1, h2⟩ => ⟨h1, h2.symm⟩

set_option maxRecDepth 100000 in
set_option maxHeartbeats 2000000 in
theorem char_any (b1 b5 b4 p : Nat) (s : ByteArray) (mark : UInt8) (w : World) (hs : s.size ≤ 1000000) (hp : p < s.size) (c1 : w.cell? ⟨b1, 0, none⟩ = some (.string s)) (c5 : w.cell? ⟨b5, 0, none⟩ = some (.int .i64 p)) (c4 : w.cell? ⟨b4, 0, none⟩ = some (.int .u8 mark.toNat)) :
    Calls Tryd.prog 31 #[.pointer (some ⟨b1, 0, none⟩), .pointer (some ⟨b5, 0, none⟩), .pointer (some ⟨b4, 0, none⟩)] w fun e w' => ChE (charT mark (dr s p)) e ∧ ∃ n, w' = w.drewN n := by
  have hbi := s[p].toNat_lt
  have hmk := mark.toNat_lt
  have hzp : (s.extract p s.size).size ≤ maxLen := by simp; unfold maxLen; omega
  by_cases h1 : (s[p].toNat : Int) < 32
  · have HE := Lib.hid (charT_ctl (mark := mark) hp h1)
    go_enter Tryd.func31, Tryd.ntmps31
    go_wp2
    go_ret2
    exact ⟨ChE.no HE.out _, 0, rfl⟩
  · by_cases h2 : (s[p].toNat : Int) = 92
    · have hb : ((s[p].toNat : Int) != 92) = false := by simp [h2]
      have hb' : ((s[p].toNat : Int) == 92) = true := by simp [h2]
      by_cases h3 : s.size ≤ p + 1
      · have HE := Lib.hid (charT_end (mark := mark) hp h2 h3)
        have h4 : ((p : Int) + 1 == (s.size : Int)) = true := by simp; omega
        clear h2 h3
        go_enter Tryd.func31, Tryd.ntmps31
        go_wp2
        go_ret2
        exact ⟨ChE.no HE.out _, 0, rfl⟩
      · have hp1 : p + 1 < s.size := by omega
        have h4 : ((p : Int) + 1 == (s.size : Int)) = false := by simp; omega
        have h4' : (p + 1 == s.size) = false := by simp; omega
        have hbi1 := s[p + 1].toNat_lt
        by_cases h5 : (s[p + 1].toNat : Int) = 117
        · have HE := Lib.hid (charT_u (mark := mark) hp1 h2 h5)
          have h6 : ((s[p + 1].toNat : Int) == 117) = true := by simp [h5]
          have hu := fun w => units_any (s.extract p s.size) w (by simp; omega) (by simp; omega)
          have hx : dr (s.extract p s.size) 2 = dr s (p + 2) := by unfold dr; rw [ext_drop, List.drop_drop]
          rw [hx, ← HE.out] at hu
          clear h2 h3 h5 hx
          cases hc : charT mark (dr s p) with
          | none =>
            rw [hc] at hu
            clear hc HE
            go_enter Tryd.func31, Tryd.ntmps31
            go_wp2_with (go_at_call 33; refine (hu _).mono ?_; rintro e w' ⟨⟨m, rfl⟩, rfl⟩)
            go_ret2
            exact ⟨⟨_, rfl⟩, 0, rfl⟩
          | some xn =>
            obtain ⟨x, n⟩ := xn
            rw [hc] at hu
            clear hc HE
            go_enter Tryd.func31, Tryd.ntmps31
            go_wp2_with (go_at_call 33; refine (hu _).mono ?_; rintro e w' ⟨rfl, rfl⟩)
            go_ret2
            exact ⟨rfl, 0, rfl⟩
        · have HX := Lib.hid (charT_e (mark := mark) hp1 h2 h5)
          have h6 : ((s[p + 1].toNat : Int) == 117) = false := by simp [h5]
          obtain ⟨u, hu⟩ : ∃ u, uval (escV mark s[p + 1]) = u := ⟨_, rfl⟩
          have HE := Lib.hid (show ChE (charT mark (dr s p)) (.returned (.tuple #[.int .i64 u, .int .i64 2])) by
            rw [HX.out, ← hu]
            cases escV mark s[p + 1] with
            | none => exact ⟨2, rfl⟩
            | some v => exact rfl)
          have HU := Lib.hid hu
          clear h2 h3 h5 hu HX
          go_enter Tryd.func31, Tryd.ntmps31
          go_wp2
          go_quiet ((go_at_call 34; exact Calls.quiet_of_same (escaped_q _ _ _ _ HU)))
          go_wp2
          go_ret2
          exact ⟨HE.out, _, rfl⟩
    · have hb : ((s[p].toNat : Int) != 92) = true := by simp [h2]
      have hb' : ((s[p].toNat : Int) == 92) = false := by simp [h2]
      obtain ⟨c, n, hcn⟩ : ∃ c n, scalV (dr s p) = (c, n) := ⟨_, _, rfl⟩
      have hX := charT_pl (mark := mark) hp h1 h2
      have hv := scalV_len (dr s p)
      rw [hcn] at hX hv
      simp only at hX hv
      have HS := Lib.hid (show scalV (s.extract p s.size).data.toList = (c, n) by rw [ext_drop]; exact hcn)
      have hn0 := hv.1
      clear hcn hv h2
      by_cases h3 : n = 0
      · have HE := Lib.hid (hX.trans (if_pos h3))
        subst h3
        clear hX
        go_enter Tryd.func31, Tryd.ntmps31
        go_wp2_with (go_at_call 32; refine (uscal_at _ _ _ _ hzp HS).mono ?_; rintro e w' ⟨rfl, rfl⟩)
        go_ret2
        exact ⟨ChE.no HE.out _, 0, rfl⟩
      · have HE := Lib.hid (hX.trans (if_neg h3))
        have h4 : (n == 0) = false := by simp [h3]
        have HN := Lib.hid (show n = (n.toNat : Int) by omega)
        clear hX h3
        go_enter Tryd.func31, Tryd.ntmps31
        go_wp2_with (go_at_call 32; refine (uscal_at _ _ _ _ hzp HS).mono ?_; rintro e w' ⟨rfl, rfl⟩)
        go_ret2
        exact ⟨ChE.yes HE.out rfl HN.out, 0, rfl⟩

end Go.Proofs.YtihfhohdnjbahaaDoor
