/- The law NumFar walked. -/
import Derived.Test.YtdfamphnilelnaaDoorDh
namespace Go.Proofs.YtdfamphnilelnaaDoor
open Go.RowKit

def PRE (mi sm : Bool) : L8 := (if mi then [45, 49, 101] else [49, 101]) ++ (if sm then [45] else [])
theorem far_pre (mi sm : Bool) (k : Nat) : PRE mi sm ++ List.replicate k 57 = farL mi sm k := by unfold PRE farL; rw [List.append_assoc]

set_option maxRecDepth 100000 in
set_option maxHeartbeats 2000000 in
theorem far_walk (n : Int) (D : Nat) (mi sm : Bool) (w : World) (ht : Tab w) (n0 : -9223372036854775808 ≤ n) (n1 : n ≤ 9223372036854775807) (d1 : D ≤ 255) :
    Calls Tryd.prog 6 #[.agg #[.int .i64 n, .int .u8 (D : Int), .bool mi, .bool sm]] w fun e w' => e = .returned (.bool true) ∧ Bel w.heap.size w w' := by
  have haw := awake_any
  have HT := Lib.hid ht; clear ht
  obtain ⟨K, hK⟩ : ∃ K : Nat, K = 3 + D % 200 := ⟨_, rfl⟩
  have hK0 : 3 ≤ K := by omega
  have hK1 : K ≤ 202 := by omega
  obtain ⟨r, hr⟩ : ∃ r : Nat, D % 200 = r := ⟨_, rfl⟩
  have hrm : (D : Int) % 200 = (r : Int) := by omega
  have hrt : (D : Int).tmod 200 = (r : Int) := by rw [Int.tmod_eq_emod_of_nonneg (by omega)]; omega
  have hr9 : r ≤ 199 := by omega
  have hKr : K = 3 + r := by omega
  subst hKr
  clear hr hK
  go_enter Tryd.func6, Tryd.ntmps6
  go_upto_if 15 with (go_at_call 9; refine (haw _).mono ?_; rintro e w1 ⟨rfl, hb⟩; have HK := Lib.hid ((Blk.new w 31 #[.int .i64 n, .int .u8 (D : Int), .bool mi, .bool sm]).bel hb (by simp)); have HW := Lib.hid (((Bel.refl w.heap.size w).alloc (Nat.le_refl _) _).trans (hb.mono (by simp))); clear hb; obtain ⟨ksz, ⟨k0, k1, k2, k3⟩, l0, l1, l2, l3⟩ := HK.out.four)
  go_cut [4, 5] (fun v sg wx => ∃ t : ByteArray, v = .string t ∧ sg = .int .i64 (if mi then -1 else 1) ∧ Hid (t.data.toList = if mi then [45, 49, 101] else [49, 101]) ∧ wx = w1)
  case first =>
    cases mi
    all_goals
      go_wp2
      go_meet
      case rel => exact ⟨_, rfl, rfl, Lib.hid rfl, rfl⟩
  case rest =>
    obtain ⟨t, rfl, rfl, HT1, rfl⟩ := hcut
    have hts : t.size ≤ 3 := by have := len_toList t; rw [HT1.out] at this; cases mi <;> simp at this <;> omega
    obtain ⟨sg, hsg⟩ : ∃ sg : Int, (if mi then (-1 : Int) else 1) = sg := ⟨_, rfl⟩
    simp only [hsg]
    have HSG := Lib.hid hsg; clear hsg
    go_upto_if 17 with fail
    go_cut [4] (fun v wx => ∃ u : ByteArray, v = .string u ∧ u.size ≤ 10 ∧ Hid (u.data.toList = PRE mi sm) ∧ wx = wc)
    case first =>
      have hcat : ¬ 9223372036854775807 < t.size + 1 := by omega
      cases sm
      · have H := Lib.hid (show t.data.toList = PRE mi false by rw [HT1.out]; unfold PRE; simp)
        go_wp2
        go_meet
        case rel => exact ⟨_, rfl, by omega, H, rfl⟩
      · have H := Lib.hid (show (t ++ ⟨#[45]⟩).data.toList = PRE mi true by unfold PRE; rw [← HT1.out]; simp)
        go_wp2
        go_meet
        case rel => exact ⟨_, rfl, by have h1 : (⟨#[45]⟩ : ByteArray).size = 1 := rfl; simp; omega, H, rfl⟩
    case rest =>
      clear HT1 hts
      obtain ⟨u, rfl, hus, HU, rfl⟩ := hcut
      go_wp2
      go_loop [4, 6] (fun v i => ∃ (x : ByteArray) (k : Nat), v = .string x ∧ i = .int .i64 k ∧ k ≤ 3 + r ∧ x.size ≤ 10 + k ∧ Hid (x.data.toList = u.data.toList ++ List.replicate k 57)) (fun _ i => 3 + r - (intOf i).toNat)
      case atStart => exact ⟨u, 0, rfl, rfl, by omega, by omega, Lib.hid (by simp)⟩
      case round =>
        obtain ⟨x, k, rfl, rfl, hk, hxs, HX⟩ := hrel
        by_cases hlt : k < 3 + r
        · have hcat : ¬ 9223372036854775807 < x.size + 1 := by omega
          have H := Lib.hid (show (x ++ ⟨#[57]⟩).data.toList = u.data.toList ++ List.replicate (k + 1) 57 by rw [List.replicate_succ', ← List.append_assoc, ← HX.out]; simp)
          go_wp2
          go_round
          case rel => exact ⟨_, k + 1, rfl, by go_num, by omega, by have h1 : (⟨#[57]⟩ : ByteArray).size = 1 := rfl; simp; omega, H⟩
          case measure => simp [intOf]; omega
        · have hkK : k = 3 + r := by omega
          have hx : x.data.toList = farL mi sm (3 + r) := by rw [HX.out, HU.out, hkK, far_pre]
          obtain ⟨p1, p2, p3⟩ := far_plain mi sm (3 + r) hK0 n n0 n1
          have hw := fun w => whole_any x w (by omega)
          have hi := fun w => is_any x w (by omega)
          have hc := fun w h => cmp_any x n w n0 n1 h (by omega)
          simp only [WH, CH, hx, p1, p2, p3] at hw hi hc
          clear HX HU hx p1 p2 p3
          have HF := Lib.hid (show farW mi sm n = if sm = true ∧ n ≠ 0 then (if 0 < n then -1 else 1) else sg by unfold farW; rw [HSG.out])
          clear HSG
          cases sm with
          | false =>
            rw [HF.out.trans (if_neg (by simp))] at hc
            clear HF
            go_wp2_with (first | (go_at_call 13; refine (hw _).mono ?_; rintro e w2 ⟨rfl, hb⟩; have HW := Lib.hid (HW.out.next hb); have HK := Lib.hid (HK.out.bel hb (HK.out.lt)); clear hb ksz k0 k1 k2 k3 l0 l1 l2 l3; obtain ⟨ksz, ⟨k0, k1, k2, k3⟩, l0, l1, l2, l3⟩ := HK.out.four) | (go_at_call 14; refine (hi _).mono ?_; rintro e w2 ⟨rfl, hb⟩; have HW := Lib.hid (HW.out.next hb); have HK := Lib.hid (HK.out.bel hb (HK.out.lt)); clear hb ksz k0 k1 k2 k3 l0 l1 l2 l3; obtain ⟨ksz, ⟨k0, k1, k2, k3⟩, l0, l1, l2, l3⟩ := HK.out.four) | (go_at_call 10; refine (hc _ (HT.out.bel HW.out (Nat.le_refl _))).mono ?_; rintro e w2 ⟨rfl, hb⟩; have HW := Lib.hid (HW.out.next hb); have HK := Lib.hid (HK.out.bel hb (HK.out.lt)); clear hb ksz k0 k1 k2 k3 l0 l1 l2 l3; obtain ⟨ksz, ⟨k0, k1, k2, k3⟩, l0, l1, l2, l3⟩ := HK.out.four))
            go_ret
            exact ⟨rfl, HW.out⟩
          | true =>
            by_cases h0 : n = 0
            · rw [HF.out.trans (if_neg (by simp [h0]))] at hc
              subst h0
              clear HF
              go_wp2_with (first | (go_at_call 13; refine (hw _).mono ?_; rintro e w2 ⟨rfl, hb⟩; have HW := Lib.hid (HW.out.next hb); have HK := Lib.hid (HK.out.bel hb (HK.out.lt)); clear hb ksz k0 k1 k2 k3 l0 l1 l2 l3; obtain ⟨ksz, ⟨k0, k1, k2, k3⟩, l0, l1, l2, l3⟩ := HK.out.four) | (go_at_call 14; refine (hi _).mono ?_; rintro e w2 ⟨rfl, hb⟩; have HW := Lib.hid (HW.out.next hb); have HK := Lib.hid (HK.out.bel hb (HK.out.lt)); clear hb ksz k0 k1 k2 k3 l0 l1 l2 l3; obtain ⟨ksz, ⟨k0, k1, k2, k3⟩, l0, l1, l2, l3⟩ := HK.out.four) | (go_at_call 10; refine (hc _ (HT.out.bel HW.out (Nat.le_refl _))).mono ?_; rintro e w2 ⟨rfl, hb⟩; have HW := Lib.hid (HW.out.next hb); have HK := Lib.hid (HK.out.bel hb (HK.out.lt)); clear hb ksz k0 k1 k2 k3 l0 l1 l2 l3; obtain ⟨ksz, ⟨k0, k1, k2, k3⟩, l0, l1, l2, l3⟩ := HK.out.four))
              go_ret
              exact ⟨rfl, HW.out⟩
            · have hnn : (n != 0) = true := bne_iff_ne.2 h0
              by_cases hp : 0 < n
              · rw [HF.out.trans ((if_pos ⟨rfl, h0⟩).trans (if_pos hp))] at hc
                clear HF
                go_wp2_with (first | (go_at_call 13; refine (hw _).mono ?_; rintro e w2 ⟨rfl, hb⟩; have HW := Lib.hid (HW.out.next hb); have HK := Lib.hid (HK.out.bel hb (HK.out.lt)); clear hb ksz k0 k1 k2 k3 l0 l1 l2 l3; obtain ⟨ksz, ⟨k0, k1, k2, k3⟩, l0, l1, l2, l3⟩ := HK.out.four) | (go_at_call 14; refine (hi _).mono ?_; rintro e w2 ⟨rfl, hb⟩; have HW := Lib.hid (HW.out.next hb); have HK := Lib.hid (HK.out.bel hb (HK.out.lt)); clear hb ksz k0 k1 k2 k3 l0 l1 l2 l3; obtain ⟨ksz, ⟨k0, k1, k2, k3⟩, l0, l1, l2, l3⟩ := HK.out.four) | (go_at_call 10; refine (hc _ (HT.out.bel HW.out (Nat.le_refl _))).mono ?_; rintro e w2 ⟨rfl, hb⟩; have HW := Lib.hid (HW.out.next hb); have HK := Lib.hid (HK.out.bel hb (HK.out.lt)); clear hb ksz k0 k1 k2 k3 l0 l1 l2 l3; obtain ⟨ksz, ⟨k0, k1, k2, k3⟩, l0, l1, l2, l3⟩ := HK.out.four))
                go_ret
                exact ⟨rfl, HW.out⟩
              · rw [HF.out.trans ((if_pos ⟨rfl, h0⟩).trans (if_neg hp))] at hc
                clear HF
                go_wp2_with (first | (go_at_call 13; refine (hw _).mono ?_; rintro e w2 ⟨rfl, hb⟩; have HW := Lib.hid (HW.out.next hb); have HK := Lib.hid (HK.out.bel hb (HK.out.lt)); clear hb ksz k0 k1 k2 k3 l0 l1 l2 l3; obtain ⟨ksz, ⟨k0, k1, k2, k3⟩, l0, l1, l2, l3⟩ := HK.out.four) | (go_at_call 14; refine (hi _).mono ?_; rintro e w2 ⟨rfl, hb⟩; have HW := Lib.hid (HW.out.next hb); have HK := Lib.hid (HK.out.bel hb (HK.out.lt)); clear hb ksz k0 k1 k2 k3 l0 l1 l2 l3; obtain ⟨ksz, ⟨k0, k1, k2, k3⟩, l0, l1, l2, l3⟩ := HK.out.four) | (go_at_call 10; refine (hc _ (HT.out.bel HW.out (Nat.le_refl _))).mono ?_; rintro e w2 ⟨rfl, hb⟩; have HW := Lib.hid (HW.out.next hb); have HK := Lib.hid (HK.out.bel hb (HK.out.lt)); clear hb ksz k0 k1 k2 k3 l0 l1 l2 l3; obtain ⟨ksz, ⟨k0, k1, k2, k3⟩, l0, l1, l2, l3⟩ := HK.out.four))
                go_ret
                exact ⟨rfl, HW.out⟩

theorem farLaw_any (n d : Int) (mi sm : Bool) (w : World) (ht : Tab w) (hn : (Lit.int .i64 n).wf = true) (hd : (Lit.int .u8 d).wf = true) :
    Calls Tryd.prog 6 #[.agg #[.int .i64 n, .int .u8 d, .bool mi, .bool sm]] w fun e w' => e = .returned (.bool true) ∧ Bel w.heap.size w w' := by
  have h := wf_u8 hd
  obtain ⟨D, rfl⟩ : ∃ D : Nat, d = D := ⟨d.toNat, by omega⟩
  exact far_walk n D mi sm w ht (wf_i64 hn).1 (wf_i64 hn).2 (by omega)

end Go.Proofs.YtdfamphnilelnaaDoor
