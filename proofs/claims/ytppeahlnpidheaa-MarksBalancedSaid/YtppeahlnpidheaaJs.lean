/- Two lists compared. -/
import Derived.Test.YtppeahlnpidheaaJr
namespace Go.Proofs.Ytppeahlnpidheaa
open Go.RowKit

set_option maxHeartbeats 400000 in
theorem sameInts_any (A A' : Option Addr) (l l' : List Int) (c c' : Nat) (w : World) (hm : l.length ≤ maxLen) (hm' : l'.length ≤ maxLen)
    (h : Rd w A (l.map (Value.int .i64))) (h' : Rd w A' (l'.map (Value.int .i64))) :
    Calls Try.prog 10 #[.slice A l.length c, .slice A' l'.length c'] w fun e w' => e = .returned (.bool (decide (l = l'))) ∧ Below w.heap.size w w' := by
  unfold maxLen at hm hm'
  by_cases hl : l.length = l'.length
  · have hl2 : ((l.length : Int) != l'.length) = false := by simp [hl]
    have HL := Lib.hid hl; clear hl
    go_enter Try.func10, Try.ntmps10
    go_wp2
    go_loopw [5] (fun i wr => ∃ (k n : Nat), k ≤ l.length ∧ i = .int .i64 k ∧ l.take k = l'.take k ∧ wr = w.drewN n) (fun i _ => l.length - (intOf i).toNat)
    case atStart => exact ⟨0, 0, Nat.zero_le _, rfl, rfl, rfl⟩
    case round =>
      obtain ⟨k, n, hk, rfl, ht, rfl⟩ := hrel
      have HT := Lib.hid ht; clear ht
      by_cases hlt : k < l.length
      · have hlt' : k < l'.length := by have := HL.out; omega
        rcases h with h | ⟨b, off, rfl, hb, hc⟩
        · exfalso; have h0 : l = [] := by simpa using h
          simp [h0] at hlt
        rcases h' with h' | ⟨b', off', rfl, hb', hc'⟩
        · exfalso; have h0 : l' = [] := by simpa using h'
          simp [h0] at hlt'
        have c1 := hc k (.int .i64 l[k]) (by simp [hlt])
        have c2 := hc' k (.int .i64 l'[k]) (by simp [hlt'])
        have hx1 : l.take (k + 1) = l.take k ++ [l[k]] := by rw [List.take_succ_eq_append_getElem hlt]
        have hx2 : l'.take (k + 1) = l'.take k ++ [l'[k]] := by rw [List.take_succ_eq_append_getElem hlt']
        clear hc hc'
        generalize l[k] = x at *
        generalize l'[k] = y at *
        have HX1 := Lib.hid hx1; have HX2 := Lib.hid hx2; clear hx1 hx2
        by_cases hxy : x = y
        · have hne : (x != y) = false := by simp [hxy]
          have HXY := Lib.hid hxy; clear hxy
          go_wp2
          go_quiet (fail)
          go_wp2
          go_roundw
          case rel => exact ⟨k + 1, _, by omega, by go_num, by rw [HX1.out, HX2.out, HXY.out, HT.out], rfl⟩
          case measure => simp [intOf]; omega
        · have hne : (x != y) = true := by simp [hxy]
          go_wp2
          go_quiet (fail)
          go_wp2
          go_ret
          refine ⟨ret_bool ?_, (below_drewN _ _ _).trans (below_drewN _ _ _)⟩
          have : l ≠ l' := by
            rintro rfl
            rw [HX1.out] at HX2
            exact hxy (by simpa using HX2.out)
          simp [this]
      · go_wp2
        go_ret
        refine ⟨ret_bool ?_, below_drewN _ _ _⟩
        have e := HT.out
        rw [List.take_of_length_le (by omega), List.take_of_length_le (by have := HL.out; omega)] at e
        simp [e]
  · have hl2 : ((l.length : Int) != l'.length) = true := by simp; omega
    go_enter Try.func10, Try.ntmps10
    go_wp2
    go_ret
    exact ⟨ret_bool (by simp; rintro rfl; exact hl rfl), Below.refl _ _⟩

set_option maxHeartbeats 400000 in
theorem sameBits_any (A A' : Option Addr) (l l' : List Bool) (c c' : Nat) (w : World) (hm : l.length ≤ maxLen) (hm' : l'.length ≤ maxLen)
    (h : Rd w A (l.map (Value.bool))) (h' : Rd w A' (l'.map (Value.bool))) :
    Calls Try.prog 14 #[.slice A l.length c, .slice A' l'.length c'] w fun e w' => e = .returned (.bool (decide (l = l'))) ∧ Below w.heap.size w w' := by
  unfold maxLen at hm hm'
  by_cases hl : l.length = l'.length
  · have hl2 : ((l.length : Int) != l'.length) = false := by simp [hl]
    have HL := Lib.hid hl; clear hl
    go_enter Try.func14, Try.ntmps14
    go_wp2
    go_loopw [5] (fun i wr => ∃ (k n : Nat), k ≤ l.length ∧ i = .int .i64 k ∧ l.take k = l'.take k ∧ wr = w.drewN n) (fun i _ => l.length - (intOf i).toNat)
    case atStart => exact ⟨0, 0, Nat.zero_le _, rfl, rfl, rfl⟩
    case round =>
      obtain ⟨k, n, hk, rfl, ht, rfl⟩ := hrel
      have HT := Lib.hid ht; clear ht
      by_cases hlt : k < l.length
      · have hlt' : k < l'.length := by have := HL.out; omega
        rcases h with h | ⟨b, off, rfl, hb, hc⟩
        · exfalso; have h0 : l = [] := by simpa using h
          simp [h0] at hlt
        rcases h' with h' | ⟨b', off', rfl, hb', hc'⟩
        · exfalso; have h0 : l' = [] := by simpa using h'
          simp [h0] at hlt'
        have c1 := hc k (.bool l[k]) (by simp [hlt])
        have c2 := hc' k (.bool l'[k]) (by simp [hlt'])
        have hx1 : l.take (k + 1) = l.take k ++ [l[k]] := by rw [List.take_succ_eq_append_getElem hlt]
        have hx2 : l'.take (k + 1) = l'.take k ++ [l'[k]] := by rw [List.take_succ_eq_append_getElem hlt']
        clear hc hc'
        generalize l[k] = x at *
        generalize l'[k] = y at *
        have HX1 := Lib.hid hx1; have HX2 := Lib.hid hx2; clear hx1 hx2
        by_cases hxy : x = y
        · subst hxy
          cases x
          all_goals
            go_wp2
            go_quiet (fail)
            go_wp2
            go_roundw
            case rel => exact ⟨k + 1, _, by omega, by go_num, by rw [HX1.out, HX2.out, HT.out], rfl⟩
            case measure => simp [intOf]; omega
        · have hll : l ≠ l' := by
            rintro rfl
            rw [HX1.out] at HX2
            exact hxy (by simpa using HX2.out)
          have HLL := Lib.hid hll; clear hll
          cases x <;> cases y <;> first
            | exact absurd rfl hxy
            | (clear hxy
               go_wp2
               go_quiet (fail)
               go_wp2
               go_ret
               exact ⟨ret_bool (by simp [HLL.out]), (below_drewN _ _ _).trans (below_drewN _ _ _)⟩)
      · go_wp2
        go_ret
        refine ⟨ret_bool ?_, below_drewN _ _ _⟩
        have e := HT.out
        rw [List.take_of_length_le (by omega), List.take_of_length_le (by have := HL.out; omega)] at e
        simp [e]
  · have hl2 : ((l.length : Int) != l'.length) = true := by simp; omega
    go_enter Try.func14, Try.ntmps14
    go_wp2
    go_ret
    exact ⟨ret_bool (by simp; rintro rfl; exact hl rfl), Below.refl _ _⟩

end Go.Proofs.Ytppeahlnpidheaa
