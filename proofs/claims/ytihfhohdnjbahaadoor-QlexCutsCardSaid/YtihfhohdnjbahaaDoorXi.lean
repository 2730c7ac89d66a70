/- ref16: token, blank, Lex. -/
import Derived.Deep.LoopGhost
import Derived.Test.YtihfhohdnjbahaaDoorXg
import Derived.Test.YtihfhohdnjbahaaDoorXh
namespace Go.Proofs.YtihfhohdnjbahaaDoor
open Go.RowKit

theorem rtok_any (s : ByteArray) (a : Nat) (w : World) (hs : s.size ≤ 1000000) (h0 : a < s.size) :
    Calls Tryd.prog 14 #[.string s, .int .i64 (a : Int)] w (ROne s a w) := by
  by_cases hc : s[a] = 34 ∨ s[a] = 39
  · exact rtok_str s a w hs h0 hc
  · by_cases hd_ : isDig s[a] = true ∨ s[a] = 45
    · exact rtok_num s a w hs h0 hc hd_
    · rcases Nat.eq_zero_or_pos (nameL (dr s a)) with hn | hn
      · exact rtok_sgn s a w hs h0 hc hd_ hn
      · exact rtok_nam s a w hs h0 hc hn
set_option maxHeartbeats 400000 in
theorem rblank_any (c : UInt8) (w : World) :
    Calls Tryd.prog 13 #[.int .u8 (c.toNat : Int)] w fun e w' => e = .returned (.bool (isBk c)) ∧ w = w' := by
  have hc := c.toNat_lt
  have key : ∀ n : UInt8, (c == n) = ((c.toNat : Int) == (n.toNat : Int)) := fun n => by rw [Bool.eq_iff_iff, beq_iff_eq, beq_iff_eq, ← UInt8.toNat_inj]; omega
  have HE := Lib.hid (show isBk c = ((c.toNat : Int) == 32 || (c.toNat : Int) == 9 || (c.toNat : Int) == 10 || (c.toNat : Int) == 13) by unfold isBk; rw [key, key, key, key]; rfl)
  obtain ⟨b0, h0⟩ : ∃ b0, ((c.toNat : Int) == 32) = b0 := ⟨_, rfl⟩
  obtain ⟨b1, h1⟩ : ∃ b1, ((c.toNat : Int) == 9) = b1 := ⟨_, rfl⟩
  obtain ⟨b2, h2⟩ : ∃ b2, ((c.toNat : Int) == 10) = b2 := ⟨_, rfl⟩
  obtain ⟨b3, h3⟩ : ∃ b3, ((c.toNat : Int) == 13) = b3 := ⟨_, rfl⟩
  rw [h0, h1, h2, h3] at HE
  clear key
  cases b0 <;> cases b1 <;> cases b2 <;> cases b3
  all_goals
    go_enter Tryd.func13, Tryd.ntmps13
    go_wp2
    go_ret
    exact ⟨ret_bool (by rw [HE.out]; rfl), rfl⟩
theorem rblank_at (c : UInt8) (b : Bool) (w : World) (h : Hid (isBk c = b)) :
    Calls Tryd.prog 13 #[.int .u8 (c.toNat : Int)] w fun e w' => e = .returned (.bool b) ∧ w = w' := by
  rw [← h.out]; exact rblank_any c w

set_option maxRecDepth 100000 in
set_option maxHeartbeats 4000000 in
theorem rlex_long (s : ByteArray) (w : World) (hs : s.size ≤ 1000000) (hlong : 4096 < s.size) :
    Calls Tryd.prog 9 #[.string s] w (LexP s.data.toList w) := by
  have HE := Lib.hid (lexL_long (l := s.data.toList) (by rw [len_toList]; exact hlong))
  go_enter Tryd.func9, Tryd.ntmps9
  generalize hQ : bodyPost Tryd.prog Tryd.f9 (LexP s.data.toList w) = Q
  have HQ := Lib.hid hQ; clear hQ
  go_wp2
  rw [← HQ.out]
  exact bodyPost_ret (v := .tuple #[.slice none 0 0, .agg #[.int .i64 4, .int .i64 0]]) (by simp [results, Tryd.results9, go_sem]) rfl (LexP.no HE.out bel_lit)

end Go.Proofs.YtihfhohdnjbahaaDoor
