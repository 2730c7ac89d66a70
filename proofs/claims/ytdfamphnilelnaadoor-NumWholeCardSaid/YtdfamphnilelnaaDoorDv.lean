/- The law NumWhole walked. -/
import Derived.Test.YtdfamphnilelnaaDoorAw
import Derived.Test.YtdfamphnilelnaaDoorDu
import Derived.Test.YtdfamphnilelnaaDoorDt
namespace Go.Proofs.YtdfamphnilelnaaDoor
open Go.RowKit

theorem itoa_len (n : Int) (n0 : -9223372036854775808 ≤ n) (n1 : n ≤ 9223372036854775807) : (bs (Lib.itoa n)).size ≤ 21 := by
  rw [bs_size]; exact Lib.itoa_length_le n n0 n1

set_option maxRecDepth 100000 in
set_option maxHeartbeats 4000000 in
theorem nw_walk (n k : Int) (Z : Nat) (w : World) (ht : Tab w) (n0 : -9223372036854775808 ≤ n) (n1 : n ≤ 9223372036854775807) (k0 : -9223372036854775808 ≤ k) (k1 : k ≤ 9223372036854775807) (hZ : Z ≤ 255) :
    Calls Tryd.prog 4 #[.int .i64 n, .int .i64 k, .int .u8 (Z : Int)] w fun e w' => e = .returned (.bool true) ∧ Bel w.heap.size w w' := by
  have haw := awake_any
  have HT := Lib.hid ht; clear ht
  have HB := Lib.hid (Bel.refl w.heap.size w)
  have htx := fun w => text_any n w n0 n1
  have hil := itoa_len n n0 n1
  have hbl : (bs (Lib.itoa n)).data.toList = Lib.itoa n := bs_list _
  generalize bs (Lib.itoa n) = u at *
  have HU := Lib.hid hbl; clear hbl
  go_enter Tryd.func4, Tryd.ntmps4
  go_upto_if 18 with (first | (go_at_call 9; refine (haw _).mono ?_; rintro e w2 ⟨rfl, hb⟩; have HB := Lib.hid (HB.out.next hb); clear hb) | (go_at_call 12; refine (htx _).mono ?_; rintro e w2 ⟨rfl, hb⟩; have HB := Lib.hid (HB.out.next hb); clear hb))
  go_cut [7] (fun v wx => ∃ t : ByteArray, v = .string t ∧ t.size ≤ 300 ∧ Hid (t.data.toList = Lib.itoa n ++ zL Z) ∧ wx = w2)
  case first =>
    by_cases hz : Z = 0
    · have H := Lib.hid (show u.data.toList = Lib.itoa n ++ zL Z by rw [HU.out, hz]; simp [zL])
      subst hz
      go_wp2
      go_meet
      case rel => exact ⟨_, rfl, by omega, H, rfl⟩
    · have hz1 : 0 < (Z : Int) := by omega
      have hcat : ¬ 9223372036854775807 < u.size + 1 := by omega
      have H := Lib.hid (show (u ++ ⟨#[46]⟩).data.toList = Lib.itoa n ++ 46 :: List.replicate 0 48 by rw [← HU.out]; simp)
      have hus : (u ++ ⟨#[46]⟩).size ≤ 22 := by have h1 : (⟨#[46]⟩ : ByteArray).size = 1 := rfl; simp; omega
      obtain ⟨u1, hu1⟩ : ∃ u1, u ++ ⟨#[46]⟩ = u1 := ⟨_, rfl⟩
      rw [hu1] at H hus
      go_wp2
      go_loop [7, 8] (fun v i => ∃ (x : ByteArray) (j : Nat), v = .string x ∧ i = .int .i64 j ∧ j ≤ Z ∧ x.size ≤ 22 + j ∧ Hid (x.data.toList = Lib.itoa n ++ 46 :: List.replicate j 48)) (fun _ i => Z - (intOf i).toNat)
      case atStart => exact ⟨_, 0, rfl, rfl, by omega, by omega, H⟩
      case round =>
        obtain ⟨x, j, rfl, rfl, hj, hxs, HX⟩ := hrel
        by_cases hlt : j < Z
        · have hcat : ¬ 9223372036854775807 < x.size + 1 := by omega
          have H2 := Lib.hid (show (x ++ ⟨#[48]⟩).data.toList = Lib.itoa n ++ 46 :: List.replicate (j + 1) 48 by rw [List.replicate_succ', ← List.cons_append, ← List.append_assoc, ← HX.out]; simp)
          go_wp2
          go_round
          case rel => exact ⟨_, j + 1, rfl, by go_num, by omega, by have h1 : (⟨#[48]⟩ : ByteArray).size = 1 := rfl; simp; omega, H2⟩
          case measure => simp [intOf]; omega
        · have hjz : j = Z := by omega
          have H2 := Lib.hid (show x.data.toList = Lib.itoa n ++ zL Z by rw [HX.out, hjz]; unfold zL; rw [if_neg hz])
          go_wp2
          go_meet
          case rel => exact ⟨_, rfl, by omega, H2, rfl⟩
  case rest =>
    obtain ⟨t, rfl, hts, HTL, rfl⟩ := hcut
    obtain ⟨p1, p2⟩ := nw_plain n k Z n0 n1 k0 k1
    rw [← HTL.out] at p1 p2
    have hw := fun w => whole_any t w (by omega)
    have hc := fun w h => cmp_any t k w k0 k1 h (by omega)
    simp only [WH, CH, p1, p2] at hw hc
    clear p1 p2 HTL hts HU
    by_cases hin : 9007199254740991 < n ∨ n < -9007199254740991
    · have e : capI n = (0, false) := by unfold capI; rw [if_pos hin]
      rw [e] at hw
      simp only at hw
      have hnz : n ≠ 0 := by omega
      have hn0 : ((0 : Int) == n) = false := beq_eq_false_iff_ne.2 (by omega)
      clear e
      by_cases hlo : n < -9007199254740991
      · by_cases c1 : n < k
        · rw [if_pos c1] at hc
          go_wp2_with (first | (go_at_call 13; refine (hw _).mono ?_; rintro e w2 ⟨rfl, hb⟩; have HB := Lib.hid (HB.out.next hb); clear hb) | (go_at_call 10; refine (hc _ (HT.out.bel HB.out (Nat.le_refl _))).mono ?_; rintro e w2 ⟨rfl, hb⟩; have HB := Lib.hid (HB.out.next hb); clear hb))
          go_ret
          exact ⟨rfl, HB.out⟩
        · by_cases c2 : k < n
          · rw [if_neg c1, if_pos c2] at hc
            go_wp2_with (first | (go_at_call 13; refine (hw _).mono ?_; rintro e w2 ⟨rfl, hb⟩; have HB := Lib.hid (HB.out.next hb); clear hb) | (go_at_call 10; refine (hc _ (HT.out.bel HB.out (Nat.le_refl _))).mono ?_; rintro e w2 ⟨rfl, hb⟩; have HB := Lib.hid (HB.out.next hb); clear hb))
            go_ret
            exact ⟨rfl, HB.out⟩
          · rw [if_neg c1, if_neg c2] at hc
            go_wp2_with (first | (go_at_call 13; refine (hw _).mono ?_; rintro e w2 ⟨rfl, hb⟩; have HB := Lib.hid (HB.out.next hb); clear hb) | (go_at_call 10; refine (hc _ (HT.out.bel HB.out (Nat.le_refl _))).mono ?_; rintro e w2 ⟨rfl, hb⟩; have HB := Lib.hid (HB.out.next hb); clear hb))
            go_ret
            exact ⟨rfl, HB.out⟩
      · have hhi : 9007199254740991 < n := by omega
        have hde : decide (n ≤ 9007199254740991) = false := decide_eq_false (by omega)
        by_cases c1 : n < k
        · rw [if_pos c1] at hc
          go_wp2_with (first | (go_at_call 13; refine (hw _).mono ?_; rintro e w2 ⟨rfl, hb⟩; have HB := Lib.hid (HB.out.next hb); clear hb) | (go_at_call 10; refine (hc _ (HT.out.bel HB.out (Nat.le_refl _))).mono ?_; rintro e w2 ⟨rfl, hb⟩; have HB := Lib.hid (HB.out.next hb); clear hb))
          go_ret
          exact ⟨rfl, HB.out⟩
        · by_cases c2 : k < n
          · rw [if_neg c1, if_pos c2] at hc
            go_wp2_with (first | (go_at_call 13; refine (hw _).mono ?_; rintro e w2 ⟨rfl, hb⟩; have HB := Lib.hid (HB.out.next hb); clear hb) | (go_at_call 10; refine (hc _ (HT.out.bel HB.out (Nat.le_refl _))).mono ?_; rintro e w2 ⟨rfl, hb⟩; have HB := Lib.hid (HB.out.next hb); clear hb))
            go_ret
            exact ⟨rfl, HB.out⟩
          · rw [if_neg c1, if_neg c2] at hc
            go_wp2_with (first | (go_at_call 13; refine (hw _).mono ?_; rintro e w2 ⟨rfl, hb⟩; have HB := Lib.hid (HB.out.next hb); clear hb) | (go_at_call 10; refine (hc _ (HT.out.bel HB.out (Nat.le_refl _))).mono ?_; rintro e w2 ⟨rfl, hb⟩; have HB := Lib.hid (HB.out.next hb); clear hb))
            go_ret
            exact ⟨rfl, HB.out⟩
    · have e : capI n = (n, true) := by unfold capI; rw [if_neg hin]
      rw [e] at hw
      simp only at hw
      clear e
      by_cases c1 : n < k
      · rw [if_pos c1] at hc
        go_wp2_with (first | (go_at_call 13; refine (hw _).mono ?_; rintro e w2 ⟨rfl, hb⟩; have HB := Lib.hid (HB.out.next hb); clear hb) | (go_at_call 10; refine (hc _ (HT.out.bel HB.out (Nat.le_refl _))).mono ?_; rintro e w2 ⟨rfl, hb⟩; have HB := Lib.hid (HB.out.next hb); clear hb))
        go_ret
        exact ⟨rfl, HB.out⟩
      · by_cases c2 : k < n
        · rw [if_neg c1, if_pos c2] at hc
          go_wp2_with (first | (go_at_call 13; refine (hw _).mono ?_; rintro e w2 ⟨rfl, hb⟩; have HB := Lib.hid (HB.out.next hb); clear hb) | (go_at_call 10; refine (hc _ (HT.out.bel HB.out (Nat.le_refl _))).mono ?_; rintro e w2 ⟨rfl, hb⟩; have HB := Lib.hid (HB.out.next hb); clear hb))
          go_ret
          exact ⟨rfl, HB.out⟩
        · rw [if_neg c1, if_neg c2] at hc
          go_wp2_with (first | (go_at_call 13; refine (hw _).mono ?_; rintro e w2 ⟨rfl, hb⟩; have HB := Lib.hid (HB.out.next hb); clear hb) | (go_at_call 10; refine (hc _ (HT.out.bel HB.out (Nat.le_refl _))).mono ?_; rintro e w2 ⟨rfl, hb⟩; have HB := Lib.hid (HB.out.next hb); clear hb))
          go_ret
          exact ⟨rfl, HB.out⟩

theorem nwLaw_any (n k z : Int) (w : World) (ht : Tab w) (hn : (Lit.int .i64 n).wf = true) (hk : (Lit.int .i64 k).wf = true) (hz : (Lit.int .u8 z).wf = true) :
    Calls Tryd.prog 4 #[.int .i64 n, .int .i64 k, .int .u8 z] w fun e w' => e = .returned (.bool true) ∧ Bel w.heap.size w w' := by
  have h := wf_u8 hz
  obtain ⟨Z, rfl⟩ : ∃ Z : Nat, z = Z := ⟨z.toNat, by omega⟩
  exact nw_walk n k Z w ht (wf_i64 hn).1 (wf_i64 hn).2 (wf_i64 hk).1 (wf_i64 hk).2 (by omega)

end Go.Proofs.YtdfamphnilelnaaDoor
