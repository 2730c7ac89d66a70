/- ref10: Whole, Is. -/
import Derived.Test.YtdfamphnilelnaaNh
import Derived.Test.YtdfamphnilelnaaNg
namespace Go.Proofs.Ytdfamphnilelnaa
open Go.RowKit

theorem atD_bd {ds : List Int} (h : ∀ d ∈ ds, 0 ≤ d ∧ d ≤ 9) (i : Int) : 0 ≤ atD ds i ∧ atD ds i ≤ 9 := by
  unfold atD; split
  · omega
  · rw [List.getD_eq_getElem?_getD]
    rcases Nat.lt_or_ge i.toNat ds.length with hlt | hge
    · rw [List.getElem?_eq_getElem hlt]; exact h _ (List.getElem_mem hlt)
    · rw [List.getElem?_eq_none hge]; simp
theorem rl_bd {ds : List Int} (h : ∀ d ∈ ds, 0 ≤ d ∧ d ≤ 9) (z : Nat) : ∀ k, 0 ≤ rl ds z k ∧ rl ds z k ≤ ((10 ^ k : Nat) : Int) - 1
  | 0 => by simp [rl]
  | k + 1 => by
    have h1 := rl_bd h z k; have h2 := atD_bd h ((z + k : Nat) : Int)
    rw [rl, Nat.pow_succ]
    omega
theorem rl_bd16 {ds : List Int} (h : ∀ d ∈ ds, 0 ≤ d ∧ d ≤ 9) (z k : Nat) (hk : k ≤ 16) : 0 ≤ rl ds z k ∧ rl ds z k ≤ 10000000000000000 := by
  have h1 := rl_bd h z k
  have h2 : 10 ^ k ≤ 10 ^ 16 := Nat.pow_le_pow_right (by omega) hk
  have h3 : (10 : Nat) ^ 16 = 10000000000000000 := by decide
  rw [h3] at h2
  omega
theorem dI_dig {l : L8} (h : l.all isDig = true) : ∀ d ∈ dI l, 0 ≤ d ∧ d ≤ 9 := by
  intro d hd
  unfold dI at hd
  rw [List.mem_map] at hd
  obtain ⟨c, hc, rfl⟩ := hd
  rw [List.all_eq_true] at h
  have := dig_bd (h c hc)
  omega
/-- Where the number lies that was read. -/
def YS (w wr : World) (g : Nat) (m : Bool) (A : Option Addr) (ds : List Int) (c : Nat) (pt ex : Int) : Prop :=
  Blk wr g 35 #[.bool m, .slice A ds.length c, .int .i64 pt, .int .i64 ex] ∧ Rd wr A (ds.map (Value.int .i64)) ∧ Bel w.heap.size w wr
theorem YS.bel {w wr w2 : World} {g : Nat} {m : Bool} {A : Option Addr} {ds : List Int} {c : Nat} {pt ex : Int} (h : YS w wr g m A ds c pt ex) (hb : Bel wr.heap.size wr w2) : YS w w2 g m A ds c pt ex :=
  ⟨h.1.bel hb h.1.lt, h.2.1.bel hb (Nat.le_refl _), h.2.2.next hb⟩
theorem YS.start {w w1 : World} {m : Bool} {A : Option Addr} {ds : List Int} {c : Nat} {pt ex : Int} (hr : Rd w1 A (ds.map (Value.int .i64))) (hb : Bel w.heap.size w w1) : YS w (w1.alloc (.cells #[.bool m, .slice A ds.length c, .int .i64 pt, .int .i64 ex] 35)) w1.heap.size m A ds c pt ex :=
  ⟨Blk.new _ _ _, hr.alloc _, hb.alloc hb.size _⟩
def RWH (s : ByteArray) (w : World) (r : Int × Bool) : Prop := Calls Try.prog 6 #[.string s] w fun e w' => e = .returned (.tuple #[.int .i64 r.1, .bool r.2]) ∧ Bel w.heap.size w w'

set_option maxRecDepth 100000 in
set_option maxHeartbeats 2000000 in
theorem refWhole_no (s : ByteArray) (w : World) (hs : s.size ≤ 50000) (hx : splitL s.data.toList = none) : RWH s w (0, false) := by
  unfold RWH
  have hrd : ∀ w, Calls Try.prog 11 #[.string s] w fun e w' => e = .returned (.tuple #[.agg #[.bool false, .slice none 0 0, .int .i64 0, .int .i64 0], .bool false]) ∧ Bel w.heap.size w w' := fun w => by have h := refRead_any s w hs; rw [hx] at h; exact h
  clear hx
  go_enter Try.func6, Try.ntmps6
  go_wp2_with (go_at_call 11; refine (hrd _).mono ?_; rintro e w1 ⟨rfl, hb⟩; have HW := Lib.hid hb; have hsz := hb.size; clear hb)
  go_ret2
  exact ⟨rfl, by (repeat' (first | (with_reducible exact HW.out) | (with_reducible exact HB5.out) | (with_reducible refine Bel.setCell ?_ (by first | exact Nat.le_refl _ | (simp; omega) | omega | (simp <;> omega)) _) | (with_reducible refine Bel.alloc ?_ (by first | exact Nat.le_refl _ | (simp; omega) | omega | (simp <;> omega)) _) | (with_reducible refine Bel.drew ?_) | (with_reducible refine Bel.drewN ?_ _)))⟩

set_option maxRecDepth 100000 in
set_option maxHeartbeats 2000000 in
theorem refWhole_gen (s : ByteArray) (w : World) (m : Bool) (ds : List Int) (pt ex : Int) (hd : ∀ d ∈ ds, 0 ≤ d ∧ d ≤ 9) (hl : ds.length ≤ 100000)
    (hp0 : -100000 ≤ pt) (hp1 : pt ≤ 100000) (he0 : -1000000000000 ≤ ex) (he1 : ex ≤ 1000000000000)
    (hrd : ∀ w, Calls Try.prog 11 #[.string s] w fun e w' => ∃ A c, e = .returned (.tuple #[numR m A ds c pt ex, .bool true]) ∧ Rd w' A (ds.map (Value.int .i64)) ∧ Bel w.heap.size w w') : RWH s w (wholeRV m ds pt ex) := by
  unfold RWH
  simp only [numR] at hrd
  have HR := Lib.hid (show wholeRV m ds pt ex = if ds.all (· == 0) then (0, true) else if pt + ex - 1 - ((ds.length - 1 - tz ds : Nat) : Int) < 0 ∨ 15 < pt + ex - 1 - (lz ds : Int) then (0, false) else capI (if m then -(rl ds (lz ds) (pt + ex - (lz ds : Int)).toNat) else rl ds (lz ds) (pt + ex - (lz ds : Int)).toNat) from rfl)
  generalize wholeRV m ds pt ex = r at *
  cases hz : ds.all (· == 0) with
  | true =>
    have HR := Lib.hid (HR.out.trans (if_pos hz))
    have hzr := fun m A c pt ex w h => (zero_any m A ds c pt ex w h hl)
    rw [hz] at hzr
    clear hz
    go_enter Try.func6, Try.ntmps6
    go_wp2_with (first | (go_at_call 11; refine (hrd _).mono ?_; rintro e w1 ⟨A, c, rfl, hr, hb⟩; have HY := Lib.hid (YS.start (m := m) (c := c) (pt := pt) (ex := ex) hr hb); clear hr hb; obtain ⟨hx, hr, hb⟩ := HY.out; obtain ⟨xsz, ⟨x0, x1, x2, x3⟩, y0, y1, y2, y3⟩ := hx.four; have HW := Lib.hid hb; clear hx hr hb) | (go_at_call 12; refine (hzr _ _ _ _ _ _ HY.out.2.1).mono ?_; rintro e w2 ⟨rfl, hb⟩; have HY := Lib.hid (HY.out.bel hb); clear hb x0 x1 x2 x3 y0 y1 y2 y3 xsz; obtain ⟨hx, hr, hb⟩ := HY.out; obtain ⟨xsz, ⟨x0, x1, x2, x3⟩, y0, y1, y2, y3⟩ := hx.four; have HW := Lib.hid hb; clear hx hr hb))
    go_ret2
    exact ⟨ret_ib (by rw [HR.out]) (by rw [HR.out]), by (repeat' (first | (with_reducible exact HW.out) | (with_reducible exact HB5.out) | (with_reducible refine Bel.setCell ?_ (by first | exact Nat.le_refl _ | (simp; omega) | omega | (simp <;> omega)) _) | (with_reducible refine Bel.alloc ?_ (by first | exact Nat.le_refl _ | (simp; omega) | omega | (simp <;> omega)) _) | (with_reducible refine Bel.drew ?_) | (with_reducible refine Bel.drewN ?_ _)))⟩
  | false =>
    have HR := Lib.hid (HR.out.trans (if_neg (by rw [hz]; decide)))
    have hzr := fun m A c pt ex w h => (zero_any m A ds c pt ex w h hl)
    rw [hz] at hzr
    have htp := fun m A c w h => (top_any m A ds c pt ex w h hl hz hp0 hp1 he0 he1)
    have hlo := fun m A c w h => (low_any m A ds c pt ex w h hl hz hp0 hp1 he0 he1)
    have hzl := lz_le ds
    have hlt := lz_tz ds hz
    have hzt : tz ds ≤ ds.length := by have := tz_lt ds hz; omega
    clear hz
    generalize hlow : pt + ex - 1 - ((ds.length - 1 - tz ds : Nat) : Int) = L at *
    generalize htop : pt + ex - 1 - (lz ds : Int) = T at *
    have hTL : L ≤ 2000000000000 := by omega
    have hT0 : -2000000000000 ≤ T := by omega
    have hT1 : T ≤ 2000000000000 := by omega
    have hL0 : -2000000000000 ≤ L := by omega
    have HT := Lib.hid (And.intro hlow htop); clear hlow htop
    go_enter Try.func6, Try.ntmps6
    go_upto_region 6 with (first | (go_at_call 11; refine (hrd _).mono ?_; rintro e w1 ⟨A, c, rfl, hr, hb⟩; have HY := Lib.hid (YS.start (m := m) (c := c) (pt := pt) (ex := ex) hr hb); clear hr hb; obtain ⟨hx, hr, hb⟩ := HY.out; obtain ⟨xsz, ⟨x0, x1, x2, x3⟩, y0, y1, y2, y3⟩ := hx.four; have HW := Lib.hid hb; clear hx hr hb) | (go_at_call 12; refine (hzr _ _ _ _ _ _ HY.out.2.1).mono ?_; rintro e w2 ⟨rfl, hb⟩; have HY := Lib.hid (HY.out.bel hb); clear hb x0 x1 x2 x3 y0 y1 y2 y3 xsz; obtain ⟨hx, hr, hb⟩ := HY.out; obtain ⟨xsz, ⟨x0, x1, x2, x3⟩, y0, y1, y2, y3⟩ := hx.four; have HW := Lib.hid hb; clear hx hr hb))
    by_cases c1 : L < 0 ∨ 15 < T
    · have HR := Lib.hid (HR.out.trans (if_pos c1))
      by_cases c2 : L < 0
      · clear c1
        go_wp2_with (first | (go_at_call 13; refine (hlo _ _ _ _ HY.out.2.1).mono ?_; rintro e w2 ⟨rfl, hb⟩; have HY := Lib.hid (HY.out.bel hb); clear hb x0 x1 x2 x3 y0 y1 y2 y3 xsz; obtain ⟨hx, hr, hb⟩ := HY.out; obtain ⟨xsz, ⟨x0, x1, x2, x3⟩, y0, y1, y2, y3⟩ := hx.four; have HW := Lib.hid hb; clear hx hr hb) | (go_at_call 14; refine (htp _ _ _ _ HY.out.2.1).mono ?_; rintro e w2 ⟨rfl, hb⟩; have HY := Lib.hid (HY.out.bel hb); clear hb x0 x1 x2 x3 y0 y1 y2 y3 xsz; obtain ⟨hx, hr, hb⟩ := HY.out; obtain ⟨xsz, ⟨x0, x1, x2, x3⟩, y0, y1, y2, y3⟩ := hx.four; have HW := Lib.hid hb; clear hx hr hb))
        go_ret2
        exact ⟨ret_ib (by rw [HR.out]) (by rw [HR.out]), by (repeat' (first | (with_reducible exact HW.out) | (with_reducible exact HB5.out) | (with_reducible refine Bel.setCell ?_ (by first | exact Nat.le_refl _ | (simp; omega) | omega | (simp <;> omega)) _) | (with_reducible refine Bel.alloc ?_ (by first | exact Nat.le_refl _ | (simp; omega) | omega | (simp <;> omega)) _) | (with_reducible refine Bel.drew ?_) | (with_reducible refine Bel.drewN ?_ _)))⟩
      · have c3 : 15 < T := by omega
        clear c1
        go_wp2_with (first | (go_at_call 13; refine (hlo _ _ _ _ HY.out.2.1).mono ?_; rintro e w2 ⟨rfl, hb⟩; have HY := Lib.hid (HY.out.bel hb); clear hb x0 x1 x2 x3 y0 y1 y2 y3 xsz; obtain ⟨hx, hr, hb⟩ := HY.out; obtain ⟨xsz, ⟨x0, x1, x2, x3⟩, y0, y1, y2, y3⟩ := hx.four; have HW := Lib.hid hb; clear hx hr hb) | (go_at_call 14; refine (htp _ _ _ _ HY.out.2.1).mono ?_; rintro e w2 ⟨rfl, hb⟩; have HY := Lib.hid (HY.out.bel hb); clear hb x0 x1 x2 x3 y0 y1 y2 y3 xsz; obtain ⟨hx, hr, hb⟩ := HY.out; obtain ⟨xsz, ⟨x0, x1, x2, x3⟩, y0, y1, y2, y3⟩ := hx.four; have HW := Lib.hid hb; clear hx hr hb))
        go_ret2
        exact ⟨ret_ib (by rw [HR.out]) (by rw [HR.out]), by (repeat' (first | (with_reducible exact HW.out) | (with_reducible exact HB5.out) | (with_reducible refine Bel.setCell ?_ (by first | exact Nat.le_refl _ | (simp; omega) | omega | (simp <;> omega)) _) | (with_reducible refine Bel.alloc ?_ (by first | exact Nat.le_refl _ | (simp; omega) | omega | (simp <;> omega)) _) | (with_reducible refine Bel.drew ?_) | (with_reducible refine Bel.drewN ?_ _)))⟩
    · have HR2 := Lib.hid (HR.out.trans (if_neg c1))
      have c2 : 0 ≤ L := by omega
      have c3 : T ≤ 15 := by omega
      clear c1
      have hTL2 : L ≤ T := by have := HT.out; omega
      obtain ⟨n, hn⟩ : ∃ n : Nat, T = (n : Int) - 1 := ⟨(T + 1).toNat, by omega⟩
      subst hn
      have hn16 : n ≤ 16 := by omega
      have HR3 := Lib.hid (show r = capI (if m then -(rl ds (lz ds) n) else rl ds (lz ds) n) by
        have := HT.out.2
        rw [show n = (pt + ex - (lz ds : Int)).toNat by omega]; exact HR2.out)
      have HTE := HT.out.2
      go_upto_region 8 with (first | (go_at_call 13; refine (hlo _ _ _ _ HY.out.2.1).mono ?_; rintro e w2 ⟨rfl, hb⟩; have HY := Lib.hid (HY.out.bel hb); clear hb x0 x1 x2 x3 y0 y1 y2 y3 xsz; obtain ⟨hx, hr, hb⟩ := HY.out; obtain ⟨xsz, ⟨x0, x1, x2, x3⟩, y0, y1, y2, y3⟩ := hx.four; have HW := Lib.hid hb; clear hx hr hb) | (go_at_call 14; refine (htp _ _ _ _ HY.out.2.1).mono ?_; rintro e w2 ⟨rfl, hb⟩; have HY := Lib.hid (HY.out.bel hb); clear hb x0 x1 x2 x3 y0 y1 y2 y3 xsz; obtain ⟨hx, hr, hb⟩ := HY.out; obtain ⟨xsz, ⟨x0, x1, x2, x3⟩, y0, y1, y2, y3⟩ := hx.four; have HW := Lib.hid hb; clear hx hr hb))
      trace "AA"
      go_wp2_with (first | (go_at_call 13; refine (hlo _ _ _ _ HY.out.2.1).mono ?_; rintro e w2 ⟨rfl, hb⟩; have HY := Lib.hid (HY.out.bel hb); clear hb x0 x1 x2 x3 y0 y1 y2 y3 xsz; obtain ⟨hx, hr, hb⟩ := HY.out; obtain ⟨xsz, ⟨x0, x1, x2, x3⟩, y0, y1, y2, y3⟩ := hx.four; have HW := Lib.hid hb; clear hx hr hb) | (go_at_call 14; refine (htp _ _ _ _ HY.out.2.1).mono ?_; rintro e w2 ⟨rfl, hb⟩; have HY := Lib.hid (HY.out.bel hb); clear hb x0 x1 x2 x3 y0 y1 y2 y3 xsz; obtain ⟨hx, hr, hb⟩ := HY.out; obtain ⟨xsz, ⟨x0, x1, x2, x3⟩, y0, y1, y2, y3⟩ := hx.four; have HW := Lib.hid hb; clear hx hr hb))
      go_loopw [6, 7] (fun v i wr => ∃ (k : Nat) (y : Int), k ≤ n ∧ v = .int .i64 y ∧ i = .int .i64 ((n : Int) - 1 - k) ∧ 0 ≤ y ∧ y ≤ 10000000000000000 ∧ Hid (rl ds (lz ds) k = y) ∧ Hid (YS w wr w1.heap.size m A ds c pt ex)) (fun _ i _ => (intOf i + 1).toNat)
      case atStart => exact ⟨0, 0, by omega, rfl, by go_num, by omega, by omega, Lib.hid rfl, HY⟩
      case round =>
        clear HY x0 x1 x2 x3 y0 y1 y2 y3 xsz HW
        obtain ⟨k, y, hk, rfl, rfl, hy0, hy1, HK, HYL⟩ := hrel
        obtain ⟨hx, hr, hb⟩ := HYL.out
        obtain ⟨xsz, ⟨x0, x1, x2, x3⟩, y0, y1, y2, y3⟩ := hx.four
        have HWL := Lib.hid hb
        clear hx hr hb
        by_cases hlt : k < n
        · have hb := rl_bd16 hd (lz ds) (k + 1) (by omega)
          have ha := atD_bd hd (((lz ds + k : Nat)) : Int)
          have e2 : rl ds (lz ds) (k + 1) = y * 10 + atD ds ((lz ds + k : Nat) : Int) := by rw [rl, HK.out]
          have hat : ∀ wr, Rd wr A (ds.map (Value.int .i64)) → Calls Try.prog 15 #[.agg #[.bool m, .slice A ds.length c, .int .i64 pt, .int .i64 ex], .int .i64 ((n : Int) - 1 - k)] wr fun e w' => e = .returned (.int .i64 (atD ds ((lz ds + k : Nat) : Int))) ∧ Bel wr.heap.size wr w' := fun wr h => by
            have := at_any m A ds c pt ex ((n : Int) - 1 - k) wr h hl hp0 hp1 he0 he1 (by omega) (by omega)
            rw [show pt + ex - 1 - ((n : Int) - 1 - k) = ((lz ds + k : Nat) : Int) by omega] at this
            exact this
          generalize atD ds ((lz ds + k : Nat) : Int) = q at *
          rw [e2] at hb
          have hyq : 0 ≤ y * 10 + q := hb.1
          have hyq2 : y * 10 + q ≤ 10000000000000000 := hb.2
          have HE2 := Lib.hid e2; clear e2 hb
          go_wp2_with (go_at_call 15; refine (hat _ HYL.out.2.1).mono ?_; rintro e w2 ⟨rfl, hb⟩; have HYL := Lib.hid (HYL.out.bel hb); clear hb x0 x1 x2 x3 y0 y1 y2 y3 xsz; obtain ⟨hx, hr, hb⟩ := HYL.out; obtain ⟨xsz, ⟨x0, x1, x2, x3⟩, y0, y1, y2, y3⟩ := hx.four; have HWL := Lib.hid hb; clear hx hr hb)
          go_roundw
          case rel => exact ⟨k + 1, _, by omega, rfl, by go_num, hyq, hyq2, HE2, HYL⟩
          case measure => simp [intOf]; omega
        · have hkn : k = n := by omega
          have HS := Lib.hid (show r = capI (if m then -y else y) by rw [HR3.out, ← HK.out, hkn])
          clear hkn HK HR3 HTE
          cases m with
          | false =>
            have HT2 := Lib.hid (show r = if 9007199254740991 < y ∨ y < -9007199254740991 then (0, false) else (y, true) from HS.out)
            clear HS
            by_cases k1 : 9007199254740991 < y
            · have HV := Lib.hid (HT2.out.trans (if_pos (.inl k1)))
              go_wp2
              go_ret2
              exact ⟨ret_ib (by rw [HV.out]) (by rw [HV.out]), HWL.out⟩
            · have HV := Lib.hid (HT2.out.trans (if_neg (by rintro (h | h) <;> omega)))
              have k2 : ¬ y < -9007199254740991 := by omega
              go_wp2
              go_ret2
              exact ⟨ret_ib (by rw [HV.out]) (by rw [HV.out]), HWL.out⟩
          | true =>
            have HT2 := Lib.hid (show r = if 9007199254740991 < -y ∨ -y < -9007199254740991 then (0, false) else (-y, true) from HS.out)
            clear HS
            have k1 : ¬ 9007199254740991 < -y := by omega
            by_cases k2 : -y < -9007199254740991
            · have HV := Lib.hid (HT2.out.trans (if_pos (.inr k2)))
              go_wp2
              go_ret2
              exact ⟨ret_ib (by rw [HV.out]) (by rw [HV.out]), HWL.out⟩
            · have HV := Lib.hid (HT2.out.trans (if_neg (by rintro (h | h) <;> omega)))
              go_wp2
              go_ret2
              exact ⟨ret_ib (by rw [HV.out]) (by rw [HV.out]), HWL.out⟩

/-- ref10.Whole. -/
theorem refWhole_any (s : ByteArray) (w : World) (hs : s.size ≤ 50000) : RWH s w (wholeR s.data.toList) := by
  unfold wholeR
  cases hx : splitL s.data.toList with
  | none => exact refWhole_no s w hs hx
  | some x =>
    obtain ⟨d1, d2, d3, _⟩ := split_dig hx
    obtain ⟨s1, s2, s3⟩ := split_len hx
    rw [len_toList] at s1 s2
    have he := expR_bd x.e d3
    refine refWhole_gen s w x.m (dI (x.w ++ x.f)) x.w.length (expR x.e) (dI_dig (by rw [List.all_append, d1, d2]; rfl)) (by rw [dI_len, List.length_append]; omega) (by omega) (by omega) he.1 he.2 fun w => ?_
    have h := refRead_any s w hs
    rw [hx] at h
    exact h

set_option maxRecDepth 100000 in
set_option maxHeartbeats 2000000 in
/-- ref10.Is. -/
theorem refIs_any (s : ByteArray) (w : World) (hs : s.size ≤ 50000) :
    Calls Try.prog 8 #[.string s] w fun e w' => e = .returned (.bool (splitL s.data.toList).isSome) ∧ Bel w.heap.size w w' := by
  have hrd := fun w => refRead_any s w hs
  cases hx : splitL s.data.toList with
  | none =>
    have hrd : ∀ w, Calls Try.prog 11 #[.string s] w fun e w' => e = .returned (.tuple #[.agg #[.bool false, .slice none 0 0, .int .i64 0, .int .i64 0], .bool false]) ∧ Bel w.heap.size w w' := fun w => by have h := hrd w; rw [hx] at h; exact h
    clear hx
    go_enter Try.func8, Try.ntmps8
    go_wp2_with (go_at_call 11; refine (hrd _).mono ?_; rintro e w1 ⟨rfl, hb⟩; have HW := Lib.hid hb; have hsz := hb.size; clear hb)
    go_ret
    exact ⟨rfl, by (repeat' (first | (with_reducible exact HW.out) | (with_reducible exact HB5.out) | (with_reducible refine Bel.setCell ?_ (by first | exact Nat.le_refl _ | (simp; omega) | omega | (simp <;> omega)) _) | (with_reducible refine Bel.alloc ?_ (by first | exact Nat.le_refl _ | (simp; omega) | omega | (simp <;> omega)) _) | (with_reducible refine Bel.drew ?_) | (with_reducible refine Bel.drewN ?_ _)))⟩
  | some x =>
    have hrd : ∀ w, Calls Try.prog 11 #[.string s] w fun e w' => ∃ A c, e = .returned (.tuple #[.agg #[.bool x.m, .slice A (dI (x.w ++ x.f)).length c, .int .i64 x.w.length, .int .i64 (expR x.e)], .bool true]) ∧ Rd w' A ((dI (x.w ++ x.f)).map (Value.int .i64)) ∧ Bel w.heap.size w w' := fun w => by have h := hrd w; rw [hx] at h; exact h
    clear hx
    go_enter Try.func8, Try.ntmps8
    go_wp2_with (go_at_call 11; refine (hrd _).mono ?_; rintro e w1 ⟨A, c, rfl, hr, hb⟩; have HW := Lib.hid hb; have hsz := hb.size; clear hb)
    go_ret
    exact ⟨rfl, by (repeat' (first | (with_reducible exact HW.out) | (with_reducible exact HB5.out) | (with_reducible refine Bel.setCell ?_ (by first | exact Nat.le_refl _ | (simp; omega) | omega | (simp <;> omega)) _) | (with_reducible refine Bel.alloc ?_ (by first | exact Nat.le_refl _ | (simp; omega) | omega | (simp <;> omega)) _) | (with_reducible refine Bel.drew ?_) | (with_reducible refine Bel.drewN ?_ _)))⟩

end Go.Proofs.Ytdfamphnilelnaa
