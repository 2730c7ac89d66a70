/- ref12: digits, word. -/
import Derived.IntWalk
import Derived.Test.YtppeahlnpidheaaPa0
namespace Go.Proofs.Ytppeahlnpidheaa
open Go.RowKit

theorem dig_int (c : UInt8) : isDig c = true ↔ (48 ≤ (c.toNat : Int) ∧ (c.toNat : Int) ≤ 57) := by
  simp [isDig]; omega

set_option maxRecDepth 100000 in
set_option maxHeartbeats 1000000 in
theorem digits_any (s : ByteArray) (a : Nat) (w : World) (hs : s.size ≤ 9223372036854775000) (ha : a ≤ s.size) :
    Calls Try.prog 35 #[.string s, .int .i64 a] w fun e w' => e = .returned (.int .i64 (digN (s.data.toList.drop a) : Nat)) ∧ w = w' := by
  go_enter Try.func35, Try.ntmps35
  go_wp2
  go_loop [5] (fun v => ∃ k : Nat, a + k ≤ s.size ∧ v = .int .i64 k ∧ digN (s.data.toList.drop a) = k + digN (s.data.toList.drop (a + k))) (fun v => s.size - (intOf v).toNat)
  case atStart => exact ⟨0, by omega, rfl, by simp⟩
  case round =>
    obtain ⟨k, hk, rfl, hd⟩ := hrel
    have HD := Lib.hid hd; clear hd
    by_cases hlt : a + k < s.size
    · have HC := Lib.hid (drop_cons s (a + k) hlt)
      by_cases hdig : 48 ≤ (s[a + k].toNat : Int) ∧ (s[a + k].toNat : Int) ≤ 57
      · have HG := Lib.hid ((dig_int _).2 hdig)
        obtain ⟨g1, g2⟩ := hdig
        go_wp2
        go_round
        case rel => exact ⟨k + 1, by omega, by go_num, by rw [HD.out, HC.out, digN, if_pos HG.out, Nat.add_assoc a k 1]; omega⟩
        case measure => simp [intOf] <;> omega
      · have HG := Lib.hid (fun h => hdig ((dig_int _).1 h))
        by_cases g1 : 48 ≤ (s[a + k].toNat : Int)
        · have g2 : ¬ (s[a + k].toNat : Int) ≤ 57 := fun h => hdig ⟨g1, h⟩
          clear hdig
          go_wp2
          go_ret
          exact ⟨ret_int (by rw [HD.out, HC.out, digN, if_neg HG.out]; simp), rfl⟩
        · clear hdig
          go_wp2
          go_ret
          exact ⟨ret_int (by rw [HD.out, HC.out, digN, if_neg HG.out]; simp), rfl⟩
    · go_wp2
      go_ret
      exact ⟨ret_int (by rw [HD.out, drop_nil s (a + k) (by omega)]; simp [digN]), rfl⟩

set_option maxRecDepth 100000 in
set_option maxHeartbeats 1000000 in
theorem word_any (s t : ByteArray) (a : Nat) (w : World) (hs : s.size ≤ 9223372036854774000) (ht : t.size ≤ 100) (ha : a ≤ s.size) :
    Calls Try.prog 31 #[.string s, .int .i64 a, .string t] w (EPost w a (wordL t.data.toList (s.data.toList.drop a))) := by
  have HTL := Lib.hid (show t.data.toList.length = t.size by simp)
  go_enter Try.func31, Try.ntmps31
  go_wp2
  go_loopw [7] (fun v wr => ∃ k n : Nat, k ≤ t.size ∧ a + k ≤ s.size ∧ v = .int .i64 k ∧ (s.data.toList.drop a).take k = t.data.toList.take k ∧ wr = (w.alloc (.cells #[.int .i64 0, .bool false, .int .i64 0] 24)).drewN n) (fun v _ => t.size - (intOf v).toNat)
  case atStart => exact ⟨0, 0, by omega, by omega, rfl, by simp, rfl⟩
  case round =>
    obtain ⟨k, n, hk, hak, rfl, htk, rfl⟩ := hrel
    have HT := Lib.hid htk; clear htk
    by_cases hlt : k < t.size
    · by_cases hak2 : a + k < s.size
      · have hd1 : decide (s.size ≤ a + k) = false := by simp; omega
        have hs1 : (s.data.toList.drop a).take (k + 1) = (s.data.toList.drop a).take k ++ [s[a + k]] := by
          rw [List.take_succ_eq_append_getElem (by simp; omega)]; simp; rfl
        have hs2 : t.data.toList.take (k + 1) = t.data.toList.take k ++ [t[k]] := by
          rw [List.take_succ_eq_append_getElem (by rw [HTL.out]; omega)]; rfl
        have HS1 := Lib.hid hs1; have HS2 := Lib.hid hs2; clear hs1 hs2
        by_cases heq : ((s[a + k].toNat : Int) != t[k].toNat) = true
        · go_wp2
          have hw : IntKind.i64.wrap ((a : Int) + k) = (a : Int) + k := IntWalk.i64_in _ (by omega)
          have hw0 : 0 ≤ (a : Int) + k := by omega
          have hwn : ((a : Int) + k).toNat = a + k := by omega
          have hwd : decide ((s.size : Int) ≤ (a : Int) + k) = false := by simp; omega
          have hlt2 : (a : Int) + k < s.size := by omega
          have hlt3 : (k : Int) < t.size := by omega
          go_quiet (fail)
          clear hw
          go_wp2
          refine bodyPost_ret (v := RV (a + k) false 0) (by simp [results, Try.results31, go_sem, RV]) rfl ?_
          refine EPost.no (a + k) (by
            rw [wordL, if_neg]
            intro h
            have h2 := congrArg (List.take (k + 1)) h
            rw [List.take_take, Nat.min_eq_left (by rw [HTL.out]; omega), HS1.out, HS2.out, HT.out] at h2
            have : s[a + k] = t[k] := by simpa using h2
            rw [this] at heq; simp at heq) rfl ?_
          exact Bel.of (by (repeat' (first | (with_reducible exact Below.refl _ _) | (with_reducible refine Below.trans ?_ (below_drewN _ _ _)) | (with_reducible refine Below.alloc ?_ ?_ _) | (with_reducible refine Below.setCell ?_ ?_ _) | (with_reducible refine Below.drew ?_) | go_size)))
        · have heq : ((s[a + k].toNat : Int) != t[k].toNat) = false := by simpa using heq
          have HE := Lib.hid (show s[a + k] = t[k] from UInt8.toNat_inj.1 (by have := bne_eq_false_iff_eq.1 heq; omega))
          go_wp2
          have hw : IntKind.i64.wrap ((a : Int) + k) = (a : Int) + k := IntWalk.i64_in _ (by omega)
          have hw0 : 0 ≤ (a : Int) + k := by omega
          have hwn : ((a : Int) + k).toNat = a + k := by omega
          have hwd : decide ((s.size : Int) ≤ (a : Int) + k) = false := by simp; omega
          have hlt2 : (a : Int) + k < s.size := by omega
          have hlt3 : (k : Int) < t.size := by omega
          go_quiet (fail)
          clear hw
          go_wp2
          go_roundw
          case rel => exact ⟨k + 1, _, by omega, by omega, by go_num, by rw [HS1.out, HS2.out, HT.out, HE.out], rfl⟩
          case measure => simp [intOf] <;> omega
      · have hd1 : decide (s.size ≤ a + k) = true := by simp; omega
        go_wp2
        have hw : IntKind.i64.wrap ((a : Int) + k) = (a : Int) + k := IntWalk.i64_in _ (by omega)
        have hwd : decide ((s.size : Int) ≤ (a : Int) + k) = true := by simp; omega
        go_quiet (fail)
        clear hw
        go_wp2
        refine bodyPost_ret (v := RV (a + k) false 0) (by simp [results, Try.results31, go_sem, RV]) rfl ?_
        refine EPost.no (a + k) (by
          rw [wordL, if_neg]
          intro h
          have h2 := congrArg List.length h
          simp at h2; omega) rfl ?_
        exact Bel.of (by (repeat' (first | (with_reducible exact Below.refl _ _) | (with_reducible refine Below.trans ?_ (below_drewN _ _ _)) | (with_reducible refine Below.alloc ?_ ?_ _) | (with_reducible refine Below.setCell ?_ ?_ _) | (with_reducible refine Below.drew ?_) | go_size)))
    · go_wp2
      refine bodyPost_ret (v := RV (a + t.size) true 0) (by simp [results, Try.results31, go_sem, RV]) rfl ?_
      refine EPost.yes t.size (by
        have hk' : k = t.size := by omega
        have h := HT.out
        rw [hk', List.take_of_length_le (l := t.data.toList) (by rw [HTL.out]; omega)] at h
        rw [wordL, HTL.out, if_pos h]) rfl ?_
      exact Bel.of (by (repeat' (first | (with_reducible exact Below.refl _ _) | (with_reducible refine Below.trans ?_ (below_drewN _ _ _)) | (with_reducible refine Below.alloc ?_ ?_ _) | (with_reducible refine Below.setCell ?_ ?_ _) | (with_reducible refine Below.drew ?_) | go_size)))

end Go.Proofs.Ytppeahlnpidheaa
