/- ref12: Str. -/
import Derived.Test.YtppeahlnpidheaaKe
namespace Go.Proofs.Ytppeahlnpidheaa
open Go.RowKit

def scalN (l : List UInt8) : Nat := (scalM ⟨l.toArray⟩).2.toNat
/-- How many bytes of a string stand behind its first mark 22, the last one among them. -/
def strB (l : List UInt8) : Option Nat :=
  match l with
  | [] => none
  | c :: r =>
    if c = 34 then some 1 else if c < 32 then none
    else if c = 92 then (match escL r with | some n => (strB (r.drop n)).map (· + (n + 1)) | none => none)
    else if _h : scalN (c :: r) = 0 then none else (strB ((c :: r).drop (scalN (c :: r)))).map (· + scalN (c :: r))
termination_by l.length
decreasing_by
  · simp only [List.length_drop, List.length_cons]; omega
  · simp only [List.length_drop, List.length_cons]; omega
/-- A string, its marks 22 among it. -/
def strL : List UInt8 → Option Nat
  | [] => none
  | c :: r => if c = 34 then (strB r).map (· + 1) else none

theorem strB_quote (r : List UInt8) : strB (34 :: r) = some 1 := by rw [strB]; simp
theorem strB_low {c : UInt8} {r : List UInt8} (h : c ≠ 34) (h' : c < 32) : strB (c :: r) = none := by rw [strB]; simp [h, h']
theorem strB_esc {r : List UInt8} {n : Nat} (h : escL r = some n) : strB (92 :: r) = (strB (r.drop n)).map (· + (n + 1)) := by rw [strB, h]; simp
theorem strB_noesc {r : List UInt8} (h : escL r = none) : strB (92 :: r) = none := by rw [strB, h]; simp
theorem strB_bad {c : UInt8} {r : List UInt8} (h : c ≠ 34) (h' : ¬ c < 32) (h2 : c ≠ 92) (h3 : scalN (c :: r) = 0) : strB (c :: r) = none := by rw [strB]; simp [h, h', h2, h3]
theorem strB_scal {c : UInt8} {r : List UInt8} (h : c ≠ 34) (h' : ¬ c < 32) (h2 : c ≠ 92) (h3 : scalN (c :: r) ≠ 0) : strB (c :: r) = (strB ((c :: r).drop (scalN (c :: r)))).map (· + scalN (c :: r)) := by
  rw [strB]; simp [h, h', h2, h3]
theorem esc_bd {l : List UInt8} {n : Nat} (h : escL l = some n) : n ≤ l.length := by
  cases l with
  | nil => simp [escL] at h
  | cons c r =>
    simp only [escL] at h
    split at h
    · cases h; simp
    · split at h
      · split at h
        · rename_i hh; cases h
          have := hh.1; simp at this ⊢; omega
        · cases h
      · cases h
theorem map_add (o : Option Nat) (a b : Nat) : (o.map (· + a)).map (· + b) = o.map (· + (a + b)) := by cases o <;> simp [Nat.add_assoc]

/-- What Str answers. -/
def SPost (w : World) (a : Int) (o : Option Nat) (e : Ending) (w' : World) : Prop := EPost w a o e w'

theorem extract_list (s : ByteArray) (k : Nat) : s.extract k s.size = ⟨(s.data.toList.drop k).toArray⟩ := by
  apply ByteArray.ext
  apply Array.toList_inj.1
  simp [ByteArray.data_extract, List.extract_eq_take_drop]
  rw [List.take_of_length_le (by simp)]

theorem eq_34 {c : UInt8} (h : ((c.toNat : Int) == 34) = true) : c = 34 := byte_of c 34 (by have := beq_iff_eq.1 h; omega)
theorem ne_34 {c : UInt8} (h : ((c.toNat : Int) == 34) = false) : c ≠ 34 := fun e => by rw [e] at h; exact absurd h (by decide)
theorem eq_92 {c : UInt8} (h : ((c.toNat : Int) == 92) = true) : c = 92 := byte_of c 92 (by have := beq_iff_eq.1 h; omega)
theorem ne_92 {c : UInt8} (h : ((c.toNat : Int) == 92) = false) : c ≠ 92 := fun e => by rw [e] at h; exact absurd h (by decide)
theorem no_of {o p : Option Nat} {a k : Nat} (h : o.map (· + (a + 1)) = p.map (· + k)) (hp : p = none) : o.map (· + 1) = none := by
  subst hp; cases o <;> simp at h ⊢
theorem yes_of {o p : Option Nat} {a k n : Nat} (h : o.map (· + (a + 1)) = p.map (· + k)) (hp : p = some n) {m : Nat} (hm : m + a = n + k) : o.map (· + 1) = some m := by
  subst hp; cases o with
  | none => simp at h
  | some x => simp at h ⊢; omega

/-- The facts on a block of three cells that a call leaves as it was. -/
theorem three (w : World) (c0 c1 c2 : Value) (t : TypeId) {w1 : World} (hb : Bel (w.heap.size + 1) (w.alloc (.cells #[c0, c1, c2] t)) w1) :
    w1.cell? ⟨w.heap.size, 0, none⟩ = some c0 ∧ w1.cell? ⟨w.heap.size, 1, none⟩ = some c1 ∧ w1.cell? ⟨w.heap.size, 2, none⟩ = some c2 ∧
    w1.frozen? ⟨w.heap.size, 0, none⟩ = false ∧ w1.frozen? ⟨w.heap.size, 1, none⟩ = false ∧ w1.frozen? ⟨w.heap.size, 2, none⟩ = false ∧ w.heap.size < w1.heap.size := by
  have h1 := fun o => hb.cell (p := ⟨w.heap.size, o, none⟩) (by show w.heap.size < _; omega)
  have h2 := fun o => hb.frozen (p := ⟨w.heap.size, o, none⟩) (by show w.heap.size < _; omega)
  refine ⟨(h1 0).trans (by simp [go_sem]), (h1 1).trans (by simp [go_sem]), (h1 2).trans (by simp [go_sem]), (h2 0).trans (by simp [go_sem]), (h2 1).trans (by simp [go_sem]), (h2 2).trans (by simp [go_sem]), ?_⟩
  have := hb.size; simp at this; omega

set_option maxRecDepth 100000 in
set_option maxHeartbeats 2000000 in
theorem str_any (s : ByteArray) (a : Nat) (w : World) (hs : s.size ≤ 9223372036854774000) (ha : a ≤ s.size) :
    Calls Try.prog 8 #[.string s, .int .i64 a] w (SPost w a (strL (s.data.toList.drop a))) := by
  by_cases hlt : a < s.size
  · have HD := Lib.hid (drop_cons s a hlt)
    by_cases hq : ((s[a].toNat : Int) != 34) = true
    · go_enter Try.func8, Try.ntmps8
      go_wp2
      refine bodyPost_ret (v := RV a false 0) (by simp [results, Try.results8, go_sem, RV]) rfl ?_
      refine EPost.no a (by rw [HD.out, strL, if_neg (by intro e; rw [e] at hq; simp at hq)]) rfl ?_
      exact Bel.of (by (repeat' (first | (with_reducible exact Below.refl _ _) | (with_reducible refine Below.trans ?_ (below_drewN _ _ _)) | (with_reducible refine Below.alloc ?_ ?_ _) | (with_reducible refine Below.setCell ?_ ?_ _) | (with_reducible refine Below.drew ?_) | go_size)))
    · have hq : ((s[a].toNat : Int) != 34) = false := by simpa using hq
      have HQ := Lib.hid (show s[a] = 34 from byte_of s[a] 34 (by have := bne_eq_false_iff_eq.1 hq; omega))
      have HS := Lib.hid (show strL (s.data.toList.drop a) = (strB (s.data.toList.drop (a + 1))).map (· + 1) by rw [HD.out, HQ.out, strL, if_pos rfl])
      go_enter Try.func8, Try.ntmps8
      go_wp2
      go_loopw [1] (fun v wr => ∃ k : Nat, a + 1 ≤ k ∧ k ≤ s.size ∧ v = .int .i64 k ∧ (strB (s.data.toList.drop (a + 1))).map (· + (a + 1)) = (strB (s.data.toList.drop k)).map (· + k) ∧ Bel (w.heap.size + 1) (w.alloc (.cells #[.int .i64 0, .bool false, .int .i64 0] 24)) wr) (fun v _ => s.size - (intOf v).toNat)
      case atStart => exact ⟨a + 1, by omega, by omega, by go_num, rfl, Bel.refl _ _⟩
      case round =>
        obtain ⟨k, hka, hk, rfl, hst, hb1⟩ := hrel
        have HST := Lib.hid hst; clear hst
        have hthree := three w _ _ _ _ hb1
        have HW := Lib.hid (((Bel.of (by (repeat' (first | (with_reducible exact Below.refl _ _) | (with_reducible refine Below.trans ?_ (below_drewN _ _ _)) | (with_reducible refine Below.alloc ?_ ?_ _) | (with_reducible refine Below.setCell ?_ ?_ _) | (with_reducible refine Below.drew ?_) | go_size))) : Bel w.heap.size w (w.alloc (.cells #[.int .i64 0, .bool false, .int .i64 0] 24)))).trans (hb1.mono (by omega)))
        have Hb1 := Lib.hid hb1; clear hb1
        obtain ⟨f0, f1, f2, g0, g1, g2, hsz⟩ := hthree
        by_cases hltk : k < s.size
        · have HK := Lib.hid (drop_cons s k hltk)
          by_cases c34 : ((s[k].toNat : Int) == 34) = true
          · go_wp2
            refine bodyPost_ret (v := RV (k + 1) true 0) (by simp [results, Try.results8, go_sem, RV, f0, f1, f2]) rfl ?_
            refine EPost.yes (k + 1 - a) (by rw [HS.out]; exact yes_of HST.out (n := 1) (by rw [HK.out, eq_34 c34, strB_quote]) (by omega)) (by congr 2; omega) ?_
            (repeat' (first | (with_reducible exact HW.out) | (with_reducible exact HB5.out) | (with_reducible refine Bel.setCell ?_ (by first | exact Nat.le_refl _ | (simp; omega) | omega) _) | (with_reducible refine Bel.alloc ?_ (by first | exact Nat.le_refl _ | (simp; omega) | omega) _) | (with_reducible refine Bel.drew ?_) | (with_reducible refine Bel.drewN ?_ _)))
          · have c34 : ((s[k].toNat : Int) == 34) = false := by simpa using c34
            by_cases c32 : (s[k].toNat : Int) < 32
            · go_wp2
              refine bodyPost_ret (v := RV (k) false 0) (by simp [results, Try.results8, go_sem, RV, f0, f1, f2, World.cell?_alloc_past, hsz]) rfl ?_
              refine EPost.no (k) (by rw [HS.out]; exact no_of HST.out (by rw [HK.out, strB_low (ne_34 c34) (by rw [UInt8.lt_iff_toNat_lt]; exact Int.ofNat_lt.1 c32)])) rfl ?_
              (repeat' (first | (with_reducible exact HW.out) | (with_reducible exact HB5.out) | (with_reducible refine Bel.setCell ?_ (by first | exact Nat.le_refl _ | (simp; omega) | omega) _) | (with_reducible refine Bel.alloc ?_ (by first | exact Nat.le_refl _ | (simp; omega) | omega) _) | (with_reducible refine Bel.drew ?_) | (with_reducible refine Bel.drewN ?_ _)))
            · have c32 : 32 ≤ (s[k].toNat : Int) := by omega
              by_cases c92 : ((s[k].toNat : Int) == 92) = true
              · have HE := Lib.hid (show s.data.toList.drop k = 92 :: s.data.toList.drop (k + 1) by rw [HK.out, eq_92 c92])
                have hec := fun w => escape_any s (k + 1) w (by omega) (by omega)
                cases hesc : escL (s.data.toList.drop (k + 1)) with
                | none =>
                  rw [hesc] at hec
                  have HESC := Lib.hid hesc; clear hesc
                  go_wp2_with (go_at_call 20; refine (hec _).mono ?_; rintro e w5 ⟨⟨m, rfl⟩, hb5⟩; simp only [RV]; have HW := Lib.hid (HW.out.trans (hb5.mono (by omega))); have HB5 := Lib.hid (Hb1.out.trans (hb5.mono (by omega))); obtain ⟨p0, p1, p2, q0, q1, q2, psz⟩ := three w _ _ _ _ HB5.out; clear hb5)
                  refine bodyPost_ret (v := RV (m) false 0) (by simp [results, Try.results8, go_sem, RV, p0, p1, p2, World.cell?_alloc_past, psz]) rfl ?_
                  refine EPost.no (m) (by rw [HS.out]; exact no_of HST.out (by rw [HE.out, strB_noesc HESC.out])) rfl ?_
                  (repeat' (first | (with_reducible exact HW.out) | (with_reducible exact HB5.out) | (with_reducible refine Bel.setCell ?_ (by first | exact Nat.le_refl _ | (simp; omega) | omega) _) | (with_reducible refine Bel.alloc ?_ (by first | exact Nat.le_refl _ | (simp; omega) | omega) _) | (with_reducible refine Bel.drew ?_) | (with_reducible refine Bel.drewN ?_ _)))
                | some n =>
                  rw [hesc] at hec
                  have hn := esc_bd hesc
                  have hn' : k + 1 + n ≤ s.size := by simp at hn; omega
                  have HESC := Lib.hid hesc; clear hesc hn
                  go_wp2_with (go_at_call 20; refine (hec _).mono ?_; rintro e w5 ⟨rfl, hb5⟩; simp only [RV]; have HW := Lib.hid (HW.out.trans (hb5.mono (by omega))); have HB5 := Lib.hid (Hb1.out.trans (hb5.mono (by omega))); obtain ⟨p0, p1, p2, q0, q1, q2, psz⟩ := three w _ _ _ _ HB5.out; clear hb5)
                  go_roundw
                  case rel => exact ⟨k + 1 + n, by omega, by omega, by go_num, by rw [HST.out, HE.out, strB_esc HESC.out, map_add, List.drop_drop, show n + 1 + k = k + 1 + n by omega], by (repeat' (first | (with_reducible exact HW.out) | (with_reducible exact HB5.out) | (with_reducible refine Bel.setCell ?_ (by first | exact Nat.le_refl _ | (simp; omega) | omega) _) | (with_reducible refine Bel.alloc ?_ (by first | exact Nat.le_refl _ | (simp; omega) | omega) _) | (with_reducible refine Bel.drew ?_) | (with_reducible refine Bel.drewN ?_ _)))⟩
                  case measure => simp [intOf] <;> omega
              · have c92 : ((s[k].toNat : Int) == 92) = false := by simpa using c92
                have hsize : (s.extract k s.size).size = s.size - k := by simp
                have hbd := scalM_bd (s.extract k s.size)
                have hsc := fun w => scal_any (s.extract k s.size) w (by rw [hsize]; unfold maxLen; omega)
                have hN : scalN (s.data.toList.drop k) = (scalM (s.extract k s.size)).2.toNat := by rw [extract_list]; rfl
                rw [hsize] at hbd; clear hsize
                generalize scalM (s.extract k s.size) = r at hbd hsc hN
                obtain ⟨r1, r2⟩ := r
                obtain ⟨hr0, hr1⟩ := hbd
                dsimp only at hr0 hr1 hN
                by_cases hz : r2 = 0
                · have hz' : (r2 == 0) = true := by simp [hz]
                  have HN := Lib.hid (show scalN (s.data.toList.drop k) = 0 by rw [hN, hz]; rfl)
                  clear hN hz
                  have HBD := Lib.hid (strB_bad (c := s[k]) (r := s.data.toList.drop (k + 1)) (ne_34 c34) (by rw [UInt8.lt_iff_toNat_lt]; intro h; have : (s[k].toNat : Int) < 32 := Int.ofNat_lt.2 h; omega) (ne_92 c92) (by rw [← HK.out]; exact HN.out))
                  go_wp2_with (go_at_call 21; refine (hsc _).mono ?_; rintro e w5 ⟨rfl, hb5'⟩; have hb5 := Bel.of hb5'; clear hb5'; have HW := Lib.hid (HW.out.trans (hb5.mono (by omega))); have HB5 := Lib.hid (Hb1.out.trans (hb5.mono (by omega))); obtain ⟨p0, p1, p2, q0, q1, q2, psz⟩ := three w _ _ _ _ HB5.out; have hws : wr.heap.size ≤ w5.heap.size := hb5.size; clear hb5)
                  all_goals
                    refine (live_any _ _ (by simp; omega)).mono ?_
                    rintro e w6 ⟨m, hm0, hm1, rfl, hb6⟩
                    have hm2 : (k : Int) + m ≤ s.size := by simp at hm1; omega
                    have HW := Lib.hid (HW.out.trans (hb6.mono (by omega)))
                    have HB6 := Lib.hid (HB5.out.trans (hb6.mono (by omega)))
                    clear hb6 hm1 p0 p1 p2 q0 q1 q2 psz
                    obtain ⟨p0, p1, p2, q0, q1, q2, psz⟩ := three w _ _ _ _ HB6.out
                    go_wp2
                    refine bodyPost_ret (v := RV (k + m) false 0) (by simp [results, Try.results8, go_sem, RV, p0, p1, p2, World.cell?_alloc_past, psz]) rfl ?_
                    refine EPost.no (k + m) (by rw [HS.out]; exact no_of HST.out (by rw [HK.out]; exact HBD.out)) rfl ?_
                    (repeat' (first | (with_reducible exact HW.out) | (with_reducible exact HB5.out) | (with_reducible refine Bel.setCell ?_ (by first | exact Nat.le_refl _ | (simp; omega) | omega) _) | (with_reducible refine Bel.alloc ?_ (by first | exact Nat.le_refl _ | (simp; omega) | omega) _) | (with_reducible refine Bel.drew ?_) | (with_reducible refine Bel.drewN ?_ _)))
                · have hz' : (r2 == 0) = false := by simp [hz]
                  have HN := Lib.hid hN; clear hN
                  go_wp2_with (go_at_call 21; refine (hsc _).mono ?_; rintro e w5 ⟨rfl, hb5'⟩; have hb5 := Bel.of hb5'; clear hb5'; dsimp only; have HW := Lib.hid (HW.out.trans (hb5.mono (by omega))); have HB5 := Lib.hid (Hb1.out.trans (hb5.mono (by omega))); obtain ⟨p0, p1, p2, q0, q1, q2, psz⟩ := three w _ _ _ _ HB5.out; clear hb5)
                  go_roundw
                  case rel => exact ⟨k + r2.toNat, by omega, by omega, by go_num, by
                    have hs2 := strB_scal (c := s[k]) (r := s.data.toList.drop (k + 1)) (ne_34 c34) (by rw [UInt8.lt_iff_toNat_lt]; intro h; have : (s[k].toNat : Int) < 32 := Int.ofNat_lt.2 h; omega) (ne_92 c92)
                    rw [← HK.out, HN.out] at hs2
                    rw [HST.out, hs2 (by omega), map_add, List.drop_drop, Nat.add_comm k], by (repeat' (first | (with_reducible exact HW.out) | (with_reducible exact HB5.out) | (with_reducible refine Bel.setCell ?_ (by first | exact Nat.le_refl _ | (simp; omega) | omega) _) | (with_reducible refine Bel.alloc ?_ (by first | exact Nat.le_refl _ | (simp; omega) | omega) _) | (with_reducible refine Bel.drew ?_) | (with_reducible refine Bel.drewN ?_ _)))⟩
                  case measure => simp [intOf] <;> omega
        · go_wp2
          refine bodyPost_ret (v := RV (k) false 0) (by simp [results, Try.results8, go_sem, RV, f0, f1, f2, World.cell?_alloc_past, hsz]) rfl ?_
          refine EPost.no (k) (by rw [HS.out]; exact no_of HST.out (by rw [drop_nil s k (by omega), strB])) rfl ?_
          (repeat' (first | (with_reducible exact HW.out) | (with_reducible exact HB5.out) | (with_reducible refine Bel.setCell ?_ (by first | exact Nat.le_refl _ | (simp; omega) | omega) _) | (with_reducible refine Bel.alloc ?_ (by first | exact Nat.le_refl _ | (simp; omega) | omega) _) | (with_reducible refine Bel.drew ?_) | (with_reducible refine Bel.drewN ?_ _)))
  · go_enter Try.func8, Try.ntmps8
    go_wp2
    refine bodyPost_ret (v := RV a false 0) (by simp [results, Try.results8, go_sem, RV]) rfl ?_
    refine EPost.no a (by rw [drop_nil s a (by omega)]; rfl) rfl ?_
    exact Bel.of (by (repeat' (first | (with_reducible exact Below.refl _ _) | (with_reducible refine Below.trans ?_ (below_drewN _ _ _)) | (with_reducible refine Below.alloc ?_ ?_ _) | (with_reducible refine Below.setCell ?_ ?_ _) | (with_reducible refine Below.drew ?_) | go_size)))

end Go.Proofs.Ytppeahlnpidheaa
