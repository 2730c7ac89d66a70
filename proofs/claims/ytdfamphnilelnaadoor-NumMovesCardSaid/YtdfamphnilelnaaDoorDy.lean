/- The law NumMoves walked. -/
import Derived.Test.YtdfamphnilelnaaDoorAw
import Derived.Test.YtdfamphnilelnaaDoorDx
import Derived.Test.YtdfamphnilelnaaDoorDt
namespace Go.Proofs.YtdfamphnilelnaaDoor
open Go.RowKit

def MV (s : ByteArray) (k n : Int) : Prop := ∀ w : World, Tab w → Calls Tryd.prog 5 #[.string s, .int .u8 k, .int .i64 n] w fun e w' => e = .returned (.bool true) ∧ Bel w.heap.size w w'

set_option maxRecDepth 100000 in
set_option maxHeartbeats 2000000 in
theorem mv_out (s : ByteArray) (k n : Int) (hs : s.size ≤ 9223372036854775807) (h : 60 < s.size ∨ s.size = 0) : MV s k n := by
  intro w _
  have haw := awake_any
  have HB := Lib.hid (Bel.refl w.heap.size w)
  by_cases h1 : 60 < s.size
  · go_enter Tryd.func5, Tryd.ntmps5
    go_wp2_with (go_at_call 9; refine (haw _).mono ?_; rintro e w2 ⟨rfl, hb⟩; have HB := Lib.hid (HB.out.next hb); clear hb)
    go_ret
    exact ⟨rfl, HB.out⟩
  · have h2 : s.size = 0 := by omega
    go_enter Tryd.func5, Tryd.ntmps5
    go_wp2_with (go_at_call 9; refine (haw _).mono ?_; rintro e w2 ⟨rfl, hb⟩; have HB := Lib.hid (HB.out.next hb); clear hb)
    go_ret
    exact ⟨rfl, HB.out⟩

set_option maxRecDepth 100000 in
set_option maxHeartbeats 4000000 in
theorem mv_in (s : ByteArray) (k : Nat) (n : Int) (n0 : -9223372036854775808 ≤ n) (n1 : n ≤ 9223372036854775807) (hk : k ≤ 255) (h60 : s.size ≤ 60) (hpos : 0 < s.size) : MV s (k : Int) n := by
  intro w ht
  have haw := awake_any
  have HT := Lib.hid ht; clear ht
  have HB := Lib.hid (Bel.refl w.heap.size w)
  have htx := fun w => text_any (k : Int) w (by omega) (by omega)
  have hil : (bs (Lib.itoa (k : Int))).size ≤ 21 := by rw [bs_size]; exact Lib.itoa_length_le _ (by omega) (by omega)
  have hbl : (bs (Lib.itoa (k : Int))).data.toList = natD (k : Int) := by rw [bs_list, itoa_pos' (by omega)]
  generalize bs (Lib.itoa (k : Int)) = d at *
  have HD := Lib.hid hbl; clear hbl
  have hnz : ((s.size : Int) == 0) = false := beq_eq_false_iff_ne.2 (by omega)
  have hh0 := hd_i' (s := s) (p := 0) (c := 48) (n := 48) hpos rfl
  have HH := Lib.hid (show hd (dr s 0) 48 = hd s.data.toList 48 from rfl)
  obtain ⟨z48, hz48⟩ : ∃ z, hd (dr s 0) 48 = z := ⟨_, rfl⟩
  rw [hz48] at hh0
  have HZ := Lib.hid hz48; clear hz48
  go_enter Tryd.func5, Tryd.ntmps5
  go_wp2_with (go_at_call 9; refine (haw _).mono ?_; rintro e w2 ⟨rfl, hb⟩; have HB := Lib.hid (HB.out.next hb); clear hb)
  go_loop [7] (fun v => ∃ j : Nat, j ≤ s.size ∧ v = .int .i64 j ∧ Hid ((s.data.toList.take j).all isDig = true ∧ (0 < j → z48 = false))) (fun v => s.size - (intOf v).toNat)
  case atStart => exact ⟨0, by omega, rfl, Lib.hid ⟨rfl, fun h => by omega⟩⟩
  case round =>
    obtain ⟨j, hj, rfl, HJ⟩ := hrel
    by_cases hlt : j < s.size
    · have hdi := dig_int s[j]
      have HTK := Lib.hid (show s.data.toList.take (j + 1) = s.data.toList.take j ++ [s[j]] by
        rw [List.take_succ_eq_append_getElem (by simpa using hlt)]; rfl)
      have h256 := s[j].toNat_lt
      obtain ⟨y, hy⟩ : ∃ y : UInt8, s[j] = y := ⟨_, rfl⟩
      rw [hy] at hdi HTK h256
      by_cases c1 : (y.toNat : Int) < 48
      · go_wp2
        go_ret
        exact ⟨rfl, HB.out⟩
      · by_cases c2 : 57 < (y.toNat : Int)
        · go_wp2
          go_ret
          exact ⟨rfl, HB.out⟩
        · have hyd : isDig y = true := hdi.2 ⟨by omega, by omega⟩
          have HJ2 := Lib.hid (show (s.data.toList.take (j + 1)).all isDig = true by rw [HTK.out, List.all_append, HJ.out.1]; simp [hyd])
          by_cases hj0 : j = 0
          · subst hj0
            have e0 : (s[0].toNat : Int) = (y.toNat : Int) := by rw [hy]
            have d1 : ¬ (s[0].toNat : Int) < 48 := by omega
            have d2 : ¬ 57 < (s[0].toNat : Int) := by omega
            clear hy c1 c2 e0 hdi
            cases z48
            · go_wp2
              go_round
              case rel => exact ⟨1, by omega, by go_num, Lib.hid ⟨HJ2.out, fun _ => by trivial⟩⟩
              case measure => simp [intOf]; omega
            · go_wp2
              go_ret
              exact ⟨rfl, HB.out⟩
          · have hjn : ((j : Int) == 0) = false := beq_eq_false_iff_ne.2 (by omega)
            have hz := HJ.out.2 (by omega)
            subst hz
            go_wp2
            go_round
            case rel => exact ⟨j + 1, by omega, by go_num, Lib.hid ⟨HJ2.out, fun _ => by trivial⟩⟩
            case measure => simp [intOf]; omega
    · have hjs : j = s.size := by omega
      have hz := HJ.out.2 (by omega)
      have HA := Lib.hid (show s.data.toList.all isDig = true by have h := HJ.out.1; rw [hjs, List.take_of_length_le (by rw [len_toList]; exact Nat.le_refl _)] at h; exact h)
      subst hz
      go_wp2
      go_loop [8, 9] (fun v i => ∃ (x : ByteArray) (j : Nat), v = .string x ∧ i = .int .i64 j ∧ j ≤ k ∧ x.size ≤ 60 + j ∧ Hid (x.data.toList = s.data.toList ++ List.replicate j 48)) (fun _ i => k - (intOf i).toNat)
      case atStart => exact ⟨s, 0, rfl, rfl, by omega, by omega, Lib.hid (by simp)⟩
      case round =>
        obtain ⟨x, j, rfl, rfl, hj, hxs, HX⟩ := hrel
        by_cases hlt : j < k
        · have hcat : ¬ 9223372036854775807 < x.size + 1 := by omega
          have H2 := Lib.hid (show (x ++ ⟨#[48]⟩).data.toList = s.data.toList ++ List.replicate (j + 1) 48 by rw [List.replicate_succ', ← List.append_assoc, ← HX.out]; simp)
          go_wp2
          go_round
          case rel => exact ⟨_, j + 1, rfl, by go_num, by omega, by have h1 : (⟨#[48]⟩ : ByteArray).size = 1 := rfl; simp; omega, H2⟩
          case measure => simp [intOf]; omega
        · have hjk : j = k := by omega
          have HX2 := Lib.hid (show x.data.toList = s.data.toList ++ List.replicate k 48 by rw [HX.out, hjk])
          obtain ⟨p1, p2, p3, p4⟩ := moves_plain s.data.toList k n hk HA.out (HH.out.symm.trans HZ.out) (ne_nil hpos)
          rw [← HX2.out] at p1 p2 p3 p4
          obtain ⟨t1, ht1⟩ : ∃ t1, x ++ ⟨#[101, 45]⟩ = t1 := ⟨_, rfl⟩
          obtain ⟨u1, hu1⟩ : ∃ u1, t1 ++ d = u1 := ⟨_, rfl⟩
          obtain ⟨s1, hs1⟩ : ∃ s1, s ++ ⟨#[69, 43]⟩ = s1 := ⟨_, rfl⟩
          obtain ⟨u2, hu2⟩ : ∃ u2, s1 ++ d = u2 := ⟨_, rfl⟩
          obtain ⟨s2, hs2⟩ : ∃ s2, s ++ ⟨#[101]⟩ = s2 := ⟨_, rfl⟩
          obtain ⟨u3, hu3⟩ : ∃ u3, s2 ++ d = u3 := ⟨_, rfl⟩
          have l1 : u1.data.toList = x.data.toList ++ 101 :: 45 :: natD (k : Int) := by rw [← hu1, ← ht1, ← HD.out]; simp
          have l2 : u2.data.toList = s.data.toList ++ 69 :: 43 :: natD (k : Int) := by rw [← hu2, ← hs1, ← HD.out]; simp
          have l3 : u3.data.toList = s.data.toList ++ 101 :: natD (k : Int) := by rw [← hu3, ← hs2, ← HD.out]; simp
          rw [← l1] at p1 p2
          rw [← l2] at p3
          rw [← l3] at p4
          have hdl : d.data.toList.length = d.size := len_toList d
          rw [HD.out] at hdl
          have z1 : u1.size ≤ 400 := by have := len_toList u1; rw [l1] at this; have h3 := len_toList x; simp at this; simp at h3; omega
          have z2 : u2.size ≤ 400 := by have := len_toList u2; rw [l2] at this; simp at this; omega
          have z3 : u3.size ≤ 400 := by have := len_toList u3; rw [l3] at this; simp at this; omega
          have y1 : t1.size ≤ 400 := by have h1 : (⟨#[101, 45]⟩ : ByteArray).size = 2 := rfl; rw [← ht1]; simp; omega
          have y2 : s1.size ≤ 400 := by have h1 : (⟨#[69, 43]⟩ : ByteArray).size = 2 := rfl; rw [← hs1]; simp; omega
          have y3 : s2.size ≤ 400 := by have h1 : (⟨#[101]⟩ : ByteArray).size = 1 := rfl; rw [← hs2]; simp; omega
          have hw := fun w => whole_any s w (by omega)
          have hw1 := fun w => whole_any u1 w (by omega)
          have hcs := fun w h => cmp_any s n w n0 n1 h (by omega)
          have hct := fun w h => cmp_any x n w n0 n1 h (by omega)
          have hc1 := fun w h => cmp_any u1 n w n0 n1 h (by omega)
          have hc2 := fun w h => cmp_any u2 n w n0 n1 h (by omega)
          have hc3 := fun w h => cmp_any u3 n w n0 n1 h (by omega)
          simp only [WH, CH, p1, p2, p3, p4] at hw hw1 hcs hct hc1 hc2 hc3
          clear p1 p2 p3 p4 l1 l2 l3 z1 z2 z3 hdl HX HA
          generalize cmpL s.data.toList n = c at *
          generalize cmpL x.data.toList n = c' at *
          generalize wholeL s.data.toList = r at *
          obtain ⟨a, ok⟩ := r
          simp only at hw hw1
          have hca : ¬ 9223372036854775807 < x.size + 2 := by omega
          have hcb : ¬ 9223372036854775807 < t1.size + d.size := by omega
          have hcc : ¬ 9223372036854775807 < s.size + 2 := by omega
          have hcd : ¬ 9223372036854775807 < s1.size + d.size := by omega
          have hce : ¬ 9223372036854775807 < s.size + 1 := by omega
          have hcf : ¬ 9223372036854775807 < s2.size + d.size := by omega
          cases ok
          all_goals
            go_wp2_with (first | (go_at_call 12; refine (htx _).mono ?_; rintro e w2 ⟨rfl, hb⟩; have HB := Lib.hid (HB.out.next hb); clear hb) | (first | (go_at_call_of 13 (Value.string s); refine (hw _).mono ?_; rintro e w2 ⟨rfl, hb⟩; have HB := Lib.hid (HB.out.next hb); clear hb) | (go_at_call_of 13 (Value.string u1); refine (hw1 _).mono ?_; rintro e w2 ⟨rfl, hb⟩; have HB := Lib.hid (HB.out.next hb); clear hb) | (go_at_call_of 10 (Value.string s); refine (hcs _ (HT.out.bel HB.out (Nat.le_refl _))).mono ?_; rintro e w2 ⟨rfl, hb⟩; have HB := Lib.hid (HB.out.next hb); clear hb) | (go_at_call_of 10 (Value.string u1); refine (hc1 _ (HT.out.bel HB.out (Nat.le_refl _))).mono ?_; rintro e w2 ⟨rfl, hb⟩; have HB := Lib.hid (HB.out.next hb); clear hb) | (go_at_call_of 10 (Value.string x); refine (hct _ (HT.out.bel HB.out (Nat.le_refl _))).mono ?_; rintro e w2 ⟨rfl, hb⟩; have HB := Lib.hid (HB.out.next hb); clear hb) | (go_at_call_of 10 (Value.string u2); refine (hc2 _ (HT.out.bel HB.out (Nat.le_refl _))).mono ?_; rintro e w2 ⟨rfl, hb⟩; have HB := Lib.hid (HB.out.next hb); clear hb) | (go_at_call_of 10 (Value.string u3); refine (hc3 _ (HT.out.bel HB.out (Nat.le_refl _))).mono ?_; rintro e w2 ⟨rfl, hb⟩; have HB := Lib.hid (HB.out.next hb); clear hb)))
            go_ret
            exact ⟨rfl, HB.out⟩

theorem mvLaw_any (s : ByteArray) (k n : Int) (w : World) (ht : Tab w) (hs : s.size ≤ 9223372036854775807) (hk : (Lit.int .u8 k).wf = true) (hn : (Lit.int .i64 n).wf = true) :
    Calls Tryd.prog 5 #[.string s, .int .u8 k, .int .i64 n] w fun e w' => e = .returned (.bool true) ∧ Bel w.heap.size w w' := by
  by_cases h : 60 < s.size ∨ s.size = 0
  · exact mv_out s k n hs h w ht
  · have hb := wf_u8 hk
    obtain ⟨K, rfl⟩ : ∃ K : Nat, k = K := ⟨k.toNat, by omega⟩
    exact mv_in s K n (wf_i64 hn).1 (wf_i64 hn).2 (by omega) (by omega) (by omega) w ht

end Go.Proofs.YtdfamphnilelnaaDoor
