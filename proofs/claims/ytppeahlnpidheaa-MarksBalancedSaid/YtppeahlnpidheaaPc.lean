/- ref12: Number. -/
import Derived.Deep.DeepCutAuto
import Derived.Test.YtppeahlnpidheaaPb
namespace Go.Proofs.Ytppeahlnpidheaa
open Go.RowKit

def dr (s : ByteArray) (a : Nat) : List UInt8 := s.data.toList.drop a
theorem dr_dr (s : ByteArray) (a k : Nat) : (dr s a).drop k = dr s (a + k) := by unfold dr; rw [List.drop_drop]
/-- A law on lists at a place, its answer a place. -/
def at_ (f : List UInt8 → Option Nat) (s : ByteArray) (a : Nat) : Option Nat := (f (dr s a)).map (· + a)
theorem at_step {f g : List UInt8 → Option Nat} {s : ByteArray} {a : Nat} (k : Nat) (h : f (dr s a) = (g ((dr s a).drop k)).map (· + k)) : at_ f s a = at_ g s (a + k) := by
  unfold at_; rw [h, dr_dr, Option.map_map]; congr 1; funext x; show x + k + a = x + (a + k); omega
theorem at_same {f g : List UInt8 → Option Nat} {s : ByteArray} {a : Nat} (h : f (dr s a) = g (dr s a)) : at_ f s a = at_ g s a := by unfold at_; rw [h]
theorem at_no {f : List UInt8 → Option Nat} {s : ByteArray} {a : Nat} (h : f (dr s a) = none) : at_ f s a = none := by unfold at_; rw [h]; rfl
theorem at_yes {f : List UInt8 → Option Nat} {s : ByteArray} {a n : Nat} (h : f (dr s a) = some n) : at_ f s a = some (a + n) := by unfold at_; rw [h]; simp [Nat.add_comm]
theorem hd_t {s : ByteArray} {p : Nat} {c : UInt8} (h : p < s.size) (e : (s[p].toNat : Int) = (c.toNat : Int)) : hd (dr s p) c = true := by
  rw [dr, drop_cons s p h, hd, beq_iff_eq, ← UInt8.toNat_inj]; omega
theorem hd_f {s : ByteArray} {p : Nat} {c : UInt8} (h : ∀ h : p < s.size, (s[p].toNat : Int) ≠ (c.toNat : Int)) : hd (dr s p) c = false := by
  by_cases hp : p < s.size
  · rw [dr, drop_cons s p hp, hd, beq_eq_false_iff_ne]; intro e; exact h hp (by rw [e])
  · rw [dr, drop_nil s p (by omega)]; rfl
theorem at1_t {s : ByteArray} {a : Nat} (h : hd (dr s a) 45 = true) : at_ numL s a = at_ num2 s (a + 1) := at_step 1 (by rw [numL, if_pos h])
theorem at1_f {s : ByteArray} {a : Nat} (h : hd (dr s a) 45 = false) : at_ numL s a = at_ num2 s a := at_same (by rw [numL, h]; rfl)
theorem at2_no {s : ByteArray} {a : Nat} (h : digN (dr s a) = 0) : at_ num2 s a = none := at_no (by rw [num2, if_pos h])
theorem at2_t {s : ByteArray} {a : Nat} (h : digN (dr s a) ≠ 0) (h' : hd (dr s a) 48 = true) : at_ num2 s a = at_ num3 s (a + 1) := at_step 1 (by rw [num2, if_neg h, if_pos h'])
theorem at2_f {s : ByteArray} {a : Nat} (h : digN (dr s a) ≠ 0) (h' : hd (dr s a) 48 = false) : at_ num2 s a = at_ num3 s (a + digN (dr s a)) := at_step _ (by rw [num2, if_neg h, h']; rfl)
theorem at3_no {s : ByteArray} {a : Nat} (h : hd (dr s a) 46 = true) (h' : digN (dr s (a + 1)) = 0) : at_ num3 s a = none := at_no (by rw [num3, if_pos h, dr_dr, if_pos h'])
theorem at3_t {s : ByteArray} {a : Nat} (h : hd (dr s a) 46 = true) (h' : digN (dr s (a + 1)) ≠ 0) : at_ num3 s a = at_ num4 s (a + (digN (dr s (a + 1)) + 1)) := at_step _ (by rw [num3, if_pos h, dr_dr, if_neg h'])
theorem at3_f {s : ByteArray} {a : Nat} (h : hd (dr s a) 46 = false) : at_ num3 s a = at_ num4 s a := at_same (by rw [num3, h]; rfl)
theorem at4_t {s : ByteArray} {a : Nat} (h : (hd (dr s a) 101 || hd (dr s a) 69) = true) : at_ num4 s a = at_ num5 s (a + 1) := at_step 1 (by rw [num4, if_pos h])
theorem at4_f {s : ByteArray} {a : Nat} (h : hd (dr s a) 101 = false) (h' : hd (dr s a) 69 = false) : at_ num4 s a = some a := at_yes (n := 0) (by rw [num4, h, h']; rfl)
theorem at5_t {s : ByteArray} {a : Nat} (h : (hd (dr s a) 43 || hd (dr s a) 45) = true) : at_ num5 s a = at_ num6 s (a + 1) := at_step 1 (by rw [num5, if_pos h])
theorem at5_f {s : ByteArray} {a : Nat} (h : hd (dr s a) 43 = false) (h' : hd (dr s a) 45 = false) : at_ num5 s a = at_ num6 s a := at_same (by rw [num5, h, h']; rfl)
theorem at6_no {s : ByteArray} {a : Nat} (h : digN (dr s a) = 0) : at_ num6 s a = none := at_no (by rw [num6, if_pos h])
theorem at6_yes {s : ByteArray} {a : Nat} (h : digN (dr s a) ≠ 0) : at_ num6 s a = some (a + digN (dr s a)) := at_yes (by rw [num6, if_neg h])
theorem EPost.noq {w : World} {f : List UInt8 → Option Nat} {s : ByteArray} {a : Nat} {e : Ending} {w' : World} (m : Int) (h : at_ f s a = none) (he : e = .returned (RV m false 0)) (hb : Bel w.heap.size w w') : EPost w a (f (s.data.toList.drop a)) e w' :=
  EPost.no m (by unfold at_ at h; exact Option.map_eq_none_iff.1 h) he hb
theorem EPost.yesq {w : World} {f : List UInt8 → Option Nat} {s : ByteArray} {a : Nat} {e : Ending} {w' : World} (q : Nat) (h : at_ f s a = some q) (he : e = .returned (RV q true 0)) (hb : Bel w.heap.size w w') : EPost w a (f (s.data.toList.drop a)) e w' := by
  obtain ⟨n, hn, rfl⟩ := Option.map_eq_some_iff.1 h
  exact EPost.yes n hn (by rw [he]; congr 2; omega) hb
theorem hd_lt {s : ByteArray} {p : Nat} {c : UInt8} (h : hd (dr s p) c = true) : p < s.size := by
  rcases Nat.lt_or_ge p s.size with h' | h'
  · exact h'
  · rw [dr, drop_nil s p h'] at h; cases h
theorem digN_le (l : List UInt8) : digN l ≤ l.length := by
  induction l with
  | nil => simp [digN]
  | cons c r ih => rw [digN]; split <;> simp <;> omega
theorem digN_bd (s : ByteArray) (a : Nat) (h : a ≤ s.size) : a + digN (dr s a) ≤ s.size := by
  have := digN_le (dr s a)
  rw [dr, List.length_drop, show s.data.toList.length = s.size by simp] at this
  unfold dr; omega

theorem hd_i {s : ByteArray} {p : Nat} {c : UInt8} (h : p < s.size) : hd (dr s p) c = ((s[p].toNat : Int) == (c.toNat : Int)) := by
  rw [dr, drop_cons s p h, hd, Bool.eq_iff_iff, beq_iff_eq, beq_iff_eq, ← UInt8.toNat_inj]; omega
theorem hd_o {s : ByteArray} {p : Nat} {c : UInt8} (h : s.size ≤ p) : hd (dr s p) c = false := by rw [dr, drop_nil s p h]; rfl
theorem hd_i' {s : ByteArray} {p : Nat} {c : UInt8} {n : Int} (h : p < s.size) (e : (c.toNat : Int) = n) : ((s[p].toNat : Int) == n) = hd (dr s p) c := by rw [hd_i h, e]
theorem hd_or_t {s : ByteArray} {p : Nat} {c d : UInt8} {n : Int} (h : p < s.size) (hn : (c.toNat : Int) = n) (e : ((s[p].toNat : Int) == n) = true) : true = (hd (dr s p) c || hd (dr s p) d) := by rw [← hd_i' h hn, e]; rfl
theorem hd_or_f {s : ByteArray} {p : Nat} {c d : UInt8} {n m : Int} (h : p < s.size) (hn : (c.toNat : Int) = n) (hm : (d.toNat : Int) = m) (e : ((s[p].toNat : Int) == n) = false) : ((s[p].toNat : Int) == m) = (hd (dr s p) c || hd (dr s p) d) := by rw [← hd_i' h hn, e, ← hd_i' h hm]; rfl
theorem hd_or_b {s : ByteArray} {p : Nat} {c d : UInt8} {n m : Int} (h : p < s.size) (hn : (c.toNat : Int) = n) (hm : (d.toNat : Int) = m) : ((s[p].toNat : Int) == n || (s[p].toNat : Int) == m) = (hd (dr s p) c || hd (dr s p) d) := by rw [← hd_i' h hn, ← hd_i' h hm]
theorem hd_or_o {s : ByteArray} {p : Nat} {c d : UInt8} (h : s.size ≤ p) : false = (hd (dr s p) c || hd (dr s p) d) := by rw [hd_o h, hd_o h]; rfl
theorem hd_lt2 {s : ByteArray} {p : Nat} {c d : UInt8} (h : (hd (dr s p) c || hd (dr s p) d) = true) : p < s.size := by
  rcases Bool.or_eq_true_iff.1 h with h | h <;> exact hd_lt h
theorem dig_hd {s : ByteArray} {p : Nat} (h : digN (dr s p) ≠ 0) : p < s.size := by
  rcases Nat.lt_or_ge p s.size with h' | h'
  · exact h'
  · exfalso; apply h; rw [dr, drop_nil s p h']; rfl

set_option maxRecDepth 100000 in
set_option maxHeartbeats 4000000 in
theorem number_any (s : ByteArray) (a : Nat) (w : World) (hs : s.size ≤ 9223372036854775000) (ha : a ≤ s.size) :
    Calls Try.prog 33 #[.string s, .int .i64 a] w (EPost w a (numL (s.data.toList.drop a))) := by
  have hdg : ∀ (p : Nat) (w : World), p ≤ s.size → Calls Try.prog 35 #[.string s, .int .i64 p] w fun e w' => e = .returned (.int .i64 (digN (dr s p) : Nat)) ∧ w = w' := fun p w h => digits_any s p w hs h
  have HDG := Lib.hid hdg; clear hdg
  go_enter Try.func33, Try.ntmps33
  go_upto_region 1 with fail
  go_cut [15] (fun v wx => v = .bool (hd (dr s a) 45) ∧ wx = (w.alloc (.cells #[.int .i64 0, .bool false, .int .i64 0] 24)))
  case first =>
    go_wp2
    all_goals
      go_meet
      case rel => exact ⟨congrArg Value.bool (by first | exact hd_i' (show a < s.size by omega) rfl | exact (hd_o (show s.size ≤ a by omega)).symm), rfl⟩
  case rest =>
    obtain ⟨rfl, rfl⟩ := hcut
    go_upto_if 15 with fail
    go_cut [1] (fun v wx => ∃ p : Nat, p ≤ s.size ∧ v = .int .i64 p ∧ Hid (at_ numL s a = at_ num2 s p) ∧ wx = (w.alloc (.cells #[.int .i64 0, .bool false, .int .i64 0] 24)))
    case first =>
      cases h : hd (dr s a) 45
      · have H := Lib.hid h; clear h
        go_wp2
        go_meet
        case rel => exact ⟨a, by omega, by go_num, Lib.hid (at1_f H.out), rfl⟩
      · have hlt := hd_lt h
        have H := Lib.hid h; clear h
        go_wp2
        go_meet
        case rel => exact ⟨a + 1, by omega, by go_num, Lib.hid (at1_t H.out), rfl⟩
    case rest =>
      obtain ⟨p, hp, rfl, HN, rfl⟩ := hcut
      have hdb := digN_bd s p hp
      have hdg := fun w => HDG.out p w hp
      by_cases hz : digN (dr s p) = 0
      · have HZ := Lib.hid (HN.out.trans (at2_no hz))
        rw [hz] at hdg
        clear hz hdb
        go_wp2_with (first
          | (go_at_call 35; refine (hdg _).mono ?_; rintro e w' ⟨rfl, rfl⟩)
          | (go_at_call 19; go_in))
        refine bodyPost_ret (v := RV p false 0) (by simp [results, Try.results33, go_sem, RV]) rfl ?_
        exact EPost.noq p HZ.out rfl (Bel.of (by (repeat' (first | (with_reducible exact Below.refl _ _) | (with_reducible refine Below.trans ?_ (below_drewN _ _ _)) | (with_reducible refine Below.alloc ?_ ?_ _) | (with_reducible refine Below.setCell ?_ ?_ _) | (with_reducible refine Below.drew ?_) | go_size))))
      · have hlt := dig_hd hz
        have H2 := Lib.hid (show (hd (dr s p) 48 = true → at_ numL s a = at_ num3 s (p + 1)) ∧ (hd (dr s p) 48 = false → at_ numL s a = at_ num3 s (p + digN (dr s p))) from ⟨fun h => HN.out.trans (at2_t hz h), fun h => HN.out.trans (at2_f hz h)⟩)
        rw [hd_i hlt] at H2
        generalize digN (dr s p) = d at *
        clear HN
        have hz' : ((d : Int) == 0) = false := by simp; omega
        go_upto_if 28 with (go_at_call 35; refine (hdg _).mono ?_; rintro e w' ⟨rfl, rfl⟩)
        go_cut [5] (fun v wx => ∃ i : Nat, p + i ≤ s.size ∧ v = .int .i64 i ∧ Hid (at_ numL s a = at_ num3 s (p + i)) ∧ wx = (w.alloc (.cells #[.int .i64 0, .bool false, .int .i64 0] 24)))
        case first =>
          cases h48 : ((s[p].toNat : Int) == 48)
          · have H := Lib.hid (H2.out.2 h48)
            go_wp2
            go_meet
            case rel => exact ⟨d, by omega, rfl, H, rfl⟩
          · have H := Lib.hid (H2.out.1 h48)
            go_wp2
            go_meet
            case rel => exact ⟨1, by omega, rfl, H, rfl⟩
        case rest =>
          obtain ⟨i, hi, rfl, HN, rfl⟩ := hcut
          clear hdg hz' hz hdb H2 hlt
          go_upto_region 9 with fail
          go_cut [1, 41] (fun v v' wx => ∃ q : Nat, q ≤ s.size ∧ v = .int .i64 q ∧ v' = .bool (hd (dr s q) 46) ∧ Hid (at_ numL s a = at_ num3 s q) ∧ wx = (w.alloc (.cells #[.int .i64 0, .bool false, .int .i64 0] 24)))
          case first =>
            go_wp2
            all_goals
              go_meet
              case rel => exact ⟨p + i, hi, by go_num, congrArg Value.bool (by first | exact hd_i' (show p + i < s.size by omega) rfl | exact (hd_o (show s.size ≤ p + i by omega)).symm), HN, rfl⟩
          case rest =>
            clear hp hi HN
            obtain ⟨p, hp, rfl, rfl, HN, rfl⟩ := hcut
            go_upto_if 41 with fail
            go_cut [1, 5] (fun v _ wx => ∃ q : Nat, q ≤ s.size ∧ v = .int .i64 q ∧ Hid (at_ numL s a = at_ num4 s q) ∧ wx = (w.alloc (.cells #[.int .i64 0, .bool false, .int .i64 0] 24)))
            case first =>
              cases h : hd (dr s p) 46
              · have H := Lib.hid (HN.out.trans (at3_f h)); clear h
                go_wp2
                go_meet
                case rel => exact ⟨p, hp, rfl, H, rfl⟩
              · have hlt := hd_lt h
                have hdb := digN_bd s (p + 1) (by omega)
                have hdg : ∀ w, Calls Try.prog 35 #[.string s, .int .i64 ((p : Int) + 1)] w fun e w' => e = .returned (.int .i64 (digN (dr s (p + 1)) : Nat)) ∧ w = w' := fun w => HDG.out (p + 1) w (by omega)
                by_cases hz : digN (dr s (p + 1)) = 0
                · have HZ := Lib.hid (HN.out.trans (at3_no h hz))
                  rw [hz] at hdg
                  clear hz hdb h
                  go_wp2_with (first | (go_at_call 35; refine (hdg _).mono ?_; rintro e w' ⟨rfl, rfl⟩) | (go_at_call 19; go_in))
                  refine bodyPost_ret (v := RV (p + 1) false 0) (by simp [results, Try.results33, go_sem, RV]) rfl ?_
                  exact EPost.noq _ HZ.out rfl (Bel.of (by (repeat' (first | (with_reducible exact Below.refl _ _) | (with_reducible refine Below.trans ?_ (below_drewN _ _ _)) | (with_reducible refine Below.alloc ?_ ?_ _) | (with_reducible refine Below.setCell ?_ ?_ _) | (with_reducible refine Below.drew ?_) | go_size))))
                · have HZ := Lib.hid (HN.out.trans (at3_t h hz))
                  generalize digN (dr s (p + 1)) = d at *
                  have hz' : ((d : Int) == 0) = false := by simp; omega
                  clear hz h
                  go_wp2_with (first | (go_at_call 35; refine (hdg _).mono ?_; rintro e w' ⟨rfl, rfl⟩) | (go_at_call 19; go_in))
                  go_meet
                  case rel => exact ⟨p + (d + 1), by omega, by go_num, HZ, rfl⟩
            case rest =>
              clear hp HN
              obtain ⟨p, hp, rfl, HN, rfl⟩ := hcut
              go_upto_region 14 with fail
              go_cut [70] (fun v wx => v = .bool (hd (dr s p) 101 || hd (dr s p) 69) ∧ wx = (w.alloc (.cells #[.int .i64 0, .bool false, .int .i64 0] 24)))
              case first =>
                go_wp2
                all_goals
                  go_meet
                  case rel => exact ⟨congrArg Value.bool (by first | exact hd_or_b (show p < s.size by omega) rfl rfl | exact hd_or_t (show p < s.size by omega) rfl (by first | assumption | exact beq_iff_eq.2 (by omega) | (simp <;> omega)) | exact hd_or_f (show p < s.size by omega) rfl rfl (by first | assumption | exact beq_eq_false_iff_ne.2 (by omega) | (simp <;> omega)) | exact hd_or_o (show s.size ≤ p by omega)), rfl⟩
              case rest =>
                obtain ⟨rfl, rfl⟩ := hcut
                cases h : (hd (dr s p) 101 || hd (dr s p) 69)
                · have H := Lib.hid (HN.out.trans (at4_f (Bool.or_eq_false_iff.1 h).1 (Bool.or_eq_false_iff.1 h).2)); clear h
                  go_wp2
                  refine bodyPost_ret (v := RV p true 0) (by simp [results, Try.results33, go_sem, RV]) rfl ?_
                  exact EPost.yesq _ H.out rfl (Bel.of (by (repeat' (first | (with_reducible exact Below.refl _ _) | (with_reducible refine Below.trans ?_ (below_drewN _ _ _)) | (with_reducible refine Below.alloc ?_ ?_ _) | (with_reducible refine Below.setCell ?_ ?_ _) | (with_reducible refine Below.drew ?_) | go_size))))
                · have hlt := hd_lt2 h
                  have H := Lib.hid (HN.out.trans (at4_t h)); clear h
                  go_upto_region 16 with fail
                  go_cut [1, 88] (fun v v' wx => ∃ q : Nat, q ≤ s.size ∧ v = .int .i64 q ∧ v' = .bool (hd (dr s q) 43 || hd (dr s q) 45) ∧ Hid (at_ numL s a = at_ num5 s q) ∧ wx = (w.alloc (.cells #[.int .i64 0, .bool false, .int .i64 0] 24)))
                  case first =>
                    go_wp2
                    all_goals
                      go_meet
                      case rel => exact ⟨p + 1, by omega, by go_num, congrArg Value.bool (by first | exact hd_or_b (show p + 1 < s.size by omega) rfl rfl | exact hd_or_t (show p + 1 < s.size by omega) rfl (by first | assumption | exact beq_iff_eq.2 (by omega) | (simp <;> omega)) | exact hd_or_f (show p + 1 < s.size by omega) rfl rfl (by first | assumption | exact beq_eq_false_iff_ne.2 (by omega) | (simp <;> omega)) | exact hd_or_o (show s.size ≤ p + 1 by omega)), H, rfl⟩
                  case rest =>
                    clear hp HN H hlt
                    obtain ⟨p, hp, rfl, rfl, HN, rfl⟩ := hcut
                    go_upto_if 88 with fail
                    go_cut [1] (fun v wx => ∃ q : Nat, q ≤ s.size ∧ v = .int .i64 q ∧ Hid (at_ numL s a = at_ num6 s q) ∧ wx = (w.alloc (.cells #[.int .i64 0, .bool false, .int .i64 0] 24)))
                    case first =>
                      cases h : (hd (dr s p) 43 || hd (dr s p) 45)
                      · have H := Lib.hid (HN.out.trans (at5_f (Bool.or_eq_false_iff.1 h).1 (Bool.or_eq_false_iff.1 h).2)); clear h
                        go_wp2
                        go_meet
                        case rel => exact ⟨p, hp, rfl, H, rfl⟩
                      · have hlt := hd_lt2 h
                        have H := Lib.hid (HN.out.trans (at5_t h)); clear h
                        go_wp2
                        go_meet
                        case rel => exact ⟨p + 1, by omega, by go_num, H, rfl⟩
                    case rest =>
                      clear hp HN
                      obtain ⟨p, hp, rfl, HN, rfl⟩ := hcut
                      have hdb := digN_bd s p hp
                      have hdg := fun w => HDG.out p w hp
                      by_cases hz : digN (dr s p) = 0
                      · have HZ := Lib.hid (HN.out.trans (at6_no hz))
                        rw [hz] at hdg
                        clear hz hdb
                        go_wp2_with (first | (go_at_call 35; refine (hdg _).mono ?_; rintro e w' ⟨rfl, rfl⟩) | (go_at_call 19; go_in))
                        refine bodyPost_ret (v := RV p false 0) (by simp [results, Try.results33, go_sem, RV]) rfl ?_
                        exact EPost.noq _ HZ.out rfl (Bel.of (by (repeat' (first | (with_reducible exact Below.refl _ _) | (with_reducible refine Below.trans ?_ (below_drewN _ _ _)) | (with_reducible refine Below.alloc ?_ ?_ _) | (with_reducible refine Below.setCell ?_ ?_ _) | (with_reducible refine Below.drew ?_) | go_size))))
                      · have HZ := Lib.hid (HN.out.trans (at6_yes hz))
                        generalize digN (dr s p) = d at *
                        have hz' : ((d : Int) == 0) = false := by simp; omega
                        clear hz
                        go_wp2_with (first | (go_at_call 35; refine (hdg _).mono ?_; rintro e w' ⟨rfl, rfl⟩) | (go_at_call 19; go_in))
                        refine bodyPost_ret (v := RV (p + d) true 0) (by simp [results, Try.results33, go_sem, RV]) rfl ?_
                        exact EPost.yesq _ HZ.out (by congr 2) (Bel.of (by (repeat' (first | (with_reducible exact Below.refl _ _) | (with_reducible refine Below.trans ?_ (below_drewN _ _ _)) | (with_reducible refine Below.alloc ?_ ?_ _) | (with_reducible refine Below.setCell ?_ ?_ _) | (with_reducible refine Below.drew ?_) | go_size))))

end Go.Proofs.Ytppeahlnpidheaa
