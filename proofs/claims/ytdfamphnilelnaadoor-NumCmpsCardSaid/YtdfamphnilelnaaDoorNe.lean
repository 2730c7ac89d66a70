/- ref10: at, zero, top, low. -/
import Derived.Test.YtdfamphnilelnaaDoorNa
namespace Go.Proofs.YtdfamphnilelnaaDoor
open Go.RowKit

/-- The digit at a place, 0 outside. -/
def atD (ds : List Int) (i : Int) : Int := if i < 0 then 0 else ds.getD i.toNat 0
def numR (m : Bool) (A : Option Addr) (ds : List Int) (c : Nat) (pt ex : Int) : Value := .agg #[.bool m, .slice A ds.length c, .int .i64 pt, .int .i64 ex]
/-- How many noughts stand ahead. -/
def lz : List Int → Nat
  | [] => 0
  | c :: r => if c = 0 then lz r + 1 else 0
def tz (l : List Int) : Nat := lz l.reverse
theorem lz_le : ∀ l : List Int, lz l ≤ l.length
  | [] => Nat.le_refl _
  | c :: r => by rw [lz]; split <;> simp; exact lz_le r
theorem lz_lt : ∀ (l : List Int), l.all (· == 0) = false → lz l < l.length
  | [], h => by simp at h
  | c :: r, h => by
    rw [lz]; split
    · rename_i hc; subst hc
      have := lz_lt r (by simpa using h)
      simp; exact this
    · simp
theorem lz_zero : ∀ (l : List Int) (i : Nat) (h : i < l.length), i < lz l → l[i] = 0
  | c :: r, 0, h, hi => by
    rw [lz] at hi; split at hi
    · assumption
    · omega
  | c :: r, i + 1, h, hi => by
    rw [lz] at hi; split at hi
    · exact lz_zero r i (by simpa using h) (by omega)
    · omega
theorem lz_not : ∀ (l : List Int) (h : lz l < l.length), l[lz l] ≠ 0
  | [], h => by simp at h
  | c :: r, h => by
    by_cases hc : c = 0
    · have e : lz (c :: r) = lz r + 1 := by rw [lz, if_pos hc]
      have h2 : lz r < r.length := by rw [e] at h; simpa using h
      have := lz_not r h2
      simp only [e, List.getElem_cons_succ]; exact this
    · have e : lz (c :: r) = 0 := by rw [lz, if_neg hc]
      simp only [e, List.getElem_cons_zero]; exact hc
theorem all_rev (l : List Int) : l.reverse.all (· == 0) = l.all (· == 0) := by simp

set_option maxRecDepth 100000 in
set_option maxHeartbeats 2000000 in
theorem at_any (m : Bool) (A : Option Addr) (ds : List Int) (c : Nat) (pt ex k : Int) (w : World) (h : Rd w A (ds.map (Value.int .i64))) (hl : ds.length ≤ 100000)
    (hp0 : -100000 ≤ pt) (hp1 : pt ≤ 100000) (he0 : -1000000000000 ≤ ex) (he1 : ex ≤ 1000000000000) (hk0 : -2000000000000 ≤ k) (hk1 : k ≤ 2000000000000) :
    Calls Tryd.prog 31 #[numR m A ds c pt ex, .int .i64 k] w fun e w' => e = .returned (.int .i64 (atD ds (pt + ex - 1 - k))) ∧ Bel w.heap.size w w' := by
  unfold numR
  by_cases h0 : pt + ex - 1 - k < 0
  · have HA := Lib.hid (show atD ds (pt + ex - 1 - k) = 0 by rw [atD, if_pos h0])
    go_enter Tryd.func31, Tryd.ntmps31
    go_wp2
    go_ret
    exact ⟨ret_int HA.out.symm, Bel.of (by (repeat' (first | (with_reducible exact Below.refl _ _) | (with_reducible refine Below.trans ?_ (below_drewN _ _ _)) | (with_reducible refine Below.alloc ?_ ?_ _) | (with_reducible refine Below.setCell ?_ ?_ _) | (with_reducible refine Below.drew ?_) | go_size)))⟩
  · by_cases h1 : pt + ex - 1 - k < ds.length
    · obtain ⟨b, off, rfl, hb, hc⟩ := (h.alloc (.cells #[.bool m, .slice A ds.length c, .int .i64 pt, .int .i64 ex] 47)).pos (by simp; omega)
      obtain ⟨j, hj⟩ : ∃ j : Nat, pt + ex - 1 - k = j := ⟨(pt + ex - 1 - k).toNat, by omega⟩
      have hjl : j < ds.length := by omega
      have hc1 := hc j (.int .i64 ds[j]) (by simp [hjl])
      have HA := Lib.hid (show atD ds (pt + ex - 1 - k) = ds[j] by rw [atD, if_neg h0, hj]; simp [hjl])
      generalize ds[j] = x at *
      have hjn : (pt + ex - 1 - k).toNat = j := by omega
      have h0' : 0 ≤ pt + ex - 1 - k := by omega
      clear hc hj
      go_enter Tryd.func31, Tryd.ntmps31
      go_wp2
      go_ret
      exact ⟨ret_int HA.out.symm, Bel.of (by (repeat' (first | (with_reducible exact Below.refl _ _) | (with_reducible refine Below.trans ?_ (below_drewN _ _ _)) | (with_reducible refine Below.alloc ?_ ?_ _) | (with_reducible refine Below.setCell ?_ ?_ _) | (with_reducible refine Below.drew ?_) | go_size)))⟩
    · have HA := Lib.hid (show atD ds (pt + ex - 1 - k) = 0 by rw [atD, if_neg h0, List.getD_eq_getElem?_getD, List.getElem?_eq_none (by omega)]; rfl)
      have h2 : (ds.length : Int) ≤ pt + ex - 1 - k := by omega
      go_enter Tryd.func31, Tryd.ntmps31
      go_wp2
      go_ret
      exact ⟨ret_int HA.out.symm, Bel.of (by (repeat' (first | (with_reducible exact Below.refl _ _) | (with_reducible refine Below.trans ?_ (below_drewN _ _ _)) | (with_reducible refine Below.alloc ?_ ?_ _) | (with_reducible refine Below.setCell ?_ ?_ _) | (with_reducible refine Below.drew ?_) | go_size)))⟩

set_option maxRecDepth 100000 in
set_option maxHeartbeats 2000000 in
theorem zero_any (m : Bool) (A : Option Addr) (ds : List Int) (c : Nat) (pt ex : Int) (w : World) (h : Rd w A (ds.map (Value.int .i64))) (hl : ds.length ≤ 100000) :
    Calls Tryd.prog 35 #[numR m A ds c pt ex] w fun e w' => e = .returned (.bool (ds.all (· == 0))) ∧ Bel w.heap.size w w' := by
  unfold numR
  have HR := Lib.hid (h.alloc (.cells #[.bool m, .slice A ds.length c, .int .i64 pt, .int .i64 ex] 47))
  go_enter Tryd.func35, Tryd.ntmps35
  go_wp2
  go_loop [3] (fun v => ∃ k : Nat, k ≤ ds.length ∧ v = .int .i64 k ∧ Hid (ds.all (· == 0) = (ds.drop k).all (· == 0))) (fun v => ds.length - (intOf v).toNat)
  case atStart => exact ⟨0, by omega, rfl, Lib.hid rfl⟩
  case round =>
    obtain ⟨k, hk, rfl, HK⟩ := hrel
    by_cases hlt : k < ds.length
    · obtain ⟨b, off, rfl, hb, hc⟩ := HR.out.pos (by simp; omega)
      have hc1 := hc k (.int .i64 ds[k]) (by simp [hlt])
      have HD := Lib.hid (List.drop_eq_getElem_cons hlt)
      generalize ds[k] = x at *
      clear hc
      cases hx : (x == 0) with
      | true =>
        have hx' : (x != 0) = false := by rw [bne, hx]; rfl
        have HK := Lib.hid (show ds.all (· == 0) = (ds.drop (k + 1)).all (· == 0) by rw [HK.out, HD.out, List.all_cons, hx, Bool.true_and])
        clear hx
        go_wp2
        go_round
        case rel => exact ⟨k + 1, by omega, by go_num, HK⟩
        case measure => simp [intOf]; omega
      | false =>
        have hx' : (x != 0) = true := by rw [bne, hx]; rfl
        have HK := Lib.hid (show ds.all (· == 0) = false by rw [HK.out, HD.out, List.all_cons, hx, Bool.false_and])
        clear hx
        go_wp2
        go_ret
        exact ⟨ret_bool HK.out.symm, Bel.of (by (repeat' (first | (with_reducible exact Below.refl _ _) | (with_reducible refine Below.trans ?_ (below_drewN _ _ _)) | (with_reducible refine Below.alloc ?_ ?_ _) | (with_reducible refine Below.setCell ?_ ?_ _) | (with_reducible refine Below.drew ?_) | go_size)))⟩
    · have HK := Lib.hid (show ds.all (· == 0) = true by rw [HK.out, List.drop_of_length_le (by omega)]; rfl)
      go_wp2
      go_ret
      exact ⟨ret_bool HK.out.symm, Bel.of (by (repeat' (first | (with_reducible exact Below.refl _ _) | (with_reducible refine Below.trans ?_ (below_drewN _ _ _)) | (with_reducible refine Below.alloc ?_ ?_ _) | (with_reducible refine Below.setCell ?_ ?_ _) | (with_reducible refine Below.drew ?_) | go_size)))⟩

set_option maxRecDepth 100000 in
set_option maxHeartbeats 2000000 in
theorem top_any (m : Bool) (A : Option Addr) (ds : List Int) (c : Nat) (pt ex : Int) (w : World) (h : Rd w A (ds.map (Value.int .i64))) (hl : ds.length ≤ 100000) (hz : ds.all (· == 0) = false)
    (hp0 : -100000 ≤ pt) (hp1 : pt ≤ 100000) (he0 : -1000000000000 ≤ ex) (he1 : ex ≤ 1000000000000) :
    Calls Tryd.prog 29 #[numR m A ds c pt ex] w fun e w' => e = .returned (.int .i64 (pt + ex - 1 - (lz ds : Nat))) ∧ Bel w.heap.size w w' := by
  unfold numR
  have hlz := lz_lt ds hz
  have HZ := Lib.hid (lz_zero ds); have HN := Lib.hid (lz_not ds hlz)
  obtain ⟨b, off, rfl, hb, hc⟩ := (h.alloc (.cells #[.bool m, .slice A ds.length c, .int .i64 pt, .int .i64 ex] 47)).pos (by simp; omega)
  have HC := Lib.hid hc
  clear hz hc
  go_enter Tryd.func29, Tryd.ntmps29
  go_wp2
  go_loop [3] (fun v => ∃ k : Nat, k ≤ lz ds ∧ v = .int .i64 k) (fun v => ds.length - (intOf v).toNat)
  case atStart => exact ⟨0, by omega, rfl⟩
  case round =>
    obtain ⟨k, hk, rfl⟩ := hrel
    have hkl : k < ds.length := by omega
    have hc1 := HC.out k (.int .i64 ds[k]) (by simp [hkl])
    by_cases hlt : k < lz ds
    · have hx : (ds[k] == 0) = true := by rw [HZ.out k hkl hlt]; rfl
      generalize ds[k] = x at *
      go_wp2
      go_round
      case rel => exact ⟨k + 1, by omega, by go_num⟩
      case measure => simp [intOf]; omega
    · have hke : k = lz ds := by omega
      have hx : (ds[k] == 0) = false := by rw [beq_eq_false_iff_ne]; subst hke; exact HN.out
      generalize ds[k] = x at *
      have hkb : k ≤ 100000 := by omega
      have HKE := Lib.hid hke
      clear hke hlz HZ HN
      go_wp2
      go_ret
      exact ⟨ret_int (by rw [HKE.out]), Bel.of (by (repeat' (first | (with_reducible exact Below.refl _ _) | (with_reducible refine Below.trans ?_ (below_drewN _ _ _)) | (with_reducible refine Below.alloc ?_ ?_ _) | (with_reducible refine Below.setCell ?_ ?_ _) | (with_reducible refine Below.drew ?_) | go_size)))⟩

set_option maxRecDepth 100000 in
set_option maxHeartbeats 2000000 in
theorem low_any (m : Bool) (A : Option Addr) (ds : List Int) (c : Nat) (pt ex : Int) (w : World) (h : Rd w A (ds.map (Value.int .i64))) (hl : ds.length ≤ 100000) (hz : ds.all (· == 0) = false)
    (hp0 : -100000 ≤ pt) (hp1 : pt ≤ 100000) (he0 : -1000000000000 ≤ ex) (he1 : ex ≤ 1000000000000) :
    Calls Tryd.prog 30 #[numR m A ds c pt ex] w fun e w' => e = .returned (.int .i64 (pt + ex - 1 - ((ds.length - 1 - tz ds : Nat) : Int))) ∧ Bel w.heap.size w w' := by
  unfold numR
  have hlz := lz_lt ds.reverse (by rw [all_rev]; exact hz)
  rw [List.length_reverse] at hlz
  have hrv : ∀ i (h : i < ds.length), ds.reverse[i]'(by simpa using h) = ds[ds.length - 1 - i] := fun i h => List.getElem_reverse (by simpa using h)
  have HZ := Lib.hid (show ∀ i (h : i < ds.length), i < tz ds → ds[ds.length - 1 - i] = 0 from fun i h h2 => by rw [← hrv i h]; exact lz_zero ds.reverse i (by simpa using h) h2)
  have HN := Lib.hid (show ds[ds.length - 1 - tz ds] ≠ 0 by rw [← hrv (tz ds) hlz]; exact lz_not ds.reverse (by simpa using hlz))
  change tz ds < ds.length at hlz
  obtain ⟨b, off, rfl, hb, hc⟩ := (h.alloc (.cells #[.bool m, .slice A ds.length c, .int .i64 pt, .int .i64 ex] 47)).pos (by simp; omega)
  have HC := Lib.hid hc
  clear hz hc hrv
  go_enter Tryd.func30, Tryd.ntmps30
  go_wp2
  go_loop [3] (fun v => ∃ k : Nat, ds.length - 1 - tz ds ≤ k ∧ k < ds.length ∧ v = .int .i64 k) (fun v => (intOf v).toNat)
  case atStart => exact ⟨ds.length - 1, by omega, by omega, by congr 1; omega⟩
  case round =>
    obtain ⟨k, hk, hkl, rfl⟩ := hrel
    have hc1 := HC.out k (.int .i64 ds[k]) (by simp [hkl])
    by_cases hlt : ds.length - 1 - tz ds < k
    · have hx : (ds[k] == 0) = true := by
        have := HZ.out (ds.length - 1 - k) (by omega) (by omega)
        have e : ds.length - 1 - (ds.length - 1 - k) = k := by omega
        simp only [e] at this
        rw [this]; rfl
      generalize ds[k] = x at *
      go_wp2
      go_round
      case rel => exact ⟨k - 1, by omega, by omega, by congr 1; omega⟩
      case measure => simp [intOf]; omega
    · have hke : k = ds.length - 1 - tz ds := by omega
      have hx : (ds[k] == 0) = false := by rw [beq_eq_false_iff_ne]; subst hke; exact HN.out
      generalize ds[k] = x at *
      have hkb : k ≤ 100000 := by omega
      have HKE := Lib.hid hke
      clear hke hlz HZ HN
      go_wp2
      go_ret
      exact ⟨ret_int (by rw [HKE.out]), Bel.of (by (repeat' (first | (with_reducible exact Below.refl _ _) | (with_reducible refine Below.trans ?_ (below_drewN _ _ _)) | (with_reducible refine Below.alloc ?_ ?_ _) | (with_reducible refine Below.setCell ?_ ?_ _) | (with_reducible refine Below.drew ?_) | go_size)))⟩

end Go.Proofs.YtdfamphnilelnaaDoor
