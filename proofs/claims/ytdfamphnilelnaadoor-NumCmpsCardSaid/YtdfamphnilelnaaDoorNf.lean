/- num: Whole. -/
import Derived.Test.YtdfamphnilelnaaDoorNd
namespace Go.Proofs.YtdfamphnilelnaaDoor
open Go.RowKit

def dg (d : List UInt8) (k : Nat) : Int := if k < d.length then (((d.getD k 0).toNat : Int) - 48) % 256 else 0
def wl (d : List UInt8) : Nat → Int
  | 0 => 0
  | k + 1 => wl d k * 10 + dg d k
theorem dg_bd (d : List UInt8) (k : Nat) : 0 ≤ dg d k ∧ dg d k ≤ 255 := by unfold dg; split <;> omega
theorem wl_bd (d : List UInt8) : ∀ k, 0 ≤ wl d k ∧ wl d k ≤ 30 * ((10 ^ k : Nat) : Int) - 29
  | 0 => by simp [wl]
  | k + 1 => by
    have h := wl_bd d k; have h2 := dg_bd d k
    rw [wl, Nat.pow_succ]
    omega
theorem wl_bd16 (d : List UInt8) (k : Nat) (h : k ≤ 16) : 0 ≤ wl d k ∧ wl d k ≤ 300000000000000000 := by
  have h1 := wl_bd d k
  have h2 : 10 ^ k ≤ 10 ^ 16 := Nat.pow_le_pow_right (by omega) h
  have h3 : (10 : Nat) ^ 16 = 10000000000000000 := by decide
  rw [h3] at h2
  omega
/-- A whole number's value, if it is none too great. -/
def capI (n : Int) : Int × Bool := if 9007199254740991 < n ∨ n < -9007199254740991 then (0, false) else (n, true)
def wholeV (v : NV) : Int × Bool :=
  if v.d = [] then (0, true) else if 16 < v.p ∨ v.p < (v.d.length : Int) then (0, false)
  else capI (if v.m then -(wl v.d v.p.toNat) else wl v.d v.p.toNat)
theorem split_len {l : L8} {x : NP} (h : splitL l = some x) : x.w.length ≤ l.length ∧ x.f.length ≤ l.length ∧ x.e.length ≤ l.length := by
  have h5 : ∀ {m w f l}, spl5 m w f l = some x → x.w = w ∧ x.f = f ∧ x.e = l := by
    intro m w f l h
    have key : ∀ {c : Prop} [Decidable c] {y : NP}, (if c then some y else none) = some x → y = x := by
      intro c _ y h; split at h
      · cases h; rfl
      · cases h
    have e := key h; subst e; exact ⟨rfl, rfl, rfl⟩
  have h4 : ∀ {m w f l}, spl4 m w f l = some x → x.w = w ∧ x.f = f ∧ x.e.length ≤ l.length := by
    intro m w f l h; unfold spl4 at h; split at h
    · cases h; exact ⟨rfl, rfl, by simp⟩
    · split at h
      · obtain ⟨a, b, c⟩ := h5 h; exact ⟨a, b, by rw [c]; simp⟩
      · cases h
  have h3 : ∀ {m w l}, spl3 m w l = some x → x.w = w ∧ x.f.length ≤ l.length ∧ x.e.length ≤ l.length := by
    intro m w l h; unfold spl3 at h; split at h
    · split at h
      · cases h
      · obtain ⟨a, b, c⟩ := h4 h
        refine ⟨a, by rw [b]; simp; omega, by have := c; simp at this; omega⟩
    · obtain ⟨a, b, c⟩ := h4 h; exact ⟨a, by rw [b]; simp, c⟩
  have h2 : ∀ {m l}, spl2 m l = some x → x.w.length ≤ l.length ∧ x.f.length ≤ l.length ∧ x.e.length ≤ l.length := by
    intro m l h; unfold spl2 at h; split at h
    · cases h
    · obtain ⟨a, b, c⟩ := h3 h
      refine ⟨by rw [a]; simp; omega, by have := b; simp at this; omega, by have := c; simp at this; omega⟩
  unfold splitL at h; split at h
  · have := h2 h; simp at this; omega
  · exact h2 h
theorem bs_size (l : List UInt8) : (bs l).size = l.length := by
  have := len_toList (bs l); rw [bs_list] at this; exact this.symm

theorem ret_ib {a b : Int} {p q : Bool} (h : a = b) (h' : p = q) : Ending.returned (.tuple #[.int .i64 a, .bool p]) = .returned (.tuple #[.int .i64 b, .bool q]) := by rw [h, h']
theorem dg_in {d : ByteArray} {k : Nat} (h : k < d.size) : dg d.data.toList k = ((d[k].toNat : Int) - 48) % 256 := by
  have e : d.data.toList[k]? = some d[k] := by rw [List.getElem?_eq_getElem (by simpa using h)]; rfl
  unfold dg; rw [len_toList, if_pos h]; simp [List.getD, e]
theorem dg_out {d : ByteArray} {k : Nat} (h : d.size ≤ k) : dg d.data.toList k = 0 := by
  unfold dg; rw [len_toList, if_neg (by omega)]

def WH (s : ByteArray) (w : World) (r : Int × Bool) : Prop := Calls Tryd.prog 13 #[.string s] w fun e w' => e = .returned (.tuple #[.int .i64 r.1, .bool r.2]) ∧ Bel w.heap.size w w'

set_option maxRecDepth 100000 in
set_option maxHeartbeats 2000000 in
theorem whole_no (s : ByteArray) (w : World) (hs : s.size ≤ 50000) (hx : splitL s.data.toList = none) : WH s w (0, false) := by
  unfold WH
  have hsp := fun w => split_any s w (by omega)
  rw [hx] at hsp
  clear hx
  simp only [splitV] at hsp
  go_enter Tryd.func13, Tryd.ntmps13
  go_wp2_with (go_at_call 15; refine (hsp _).mono ?_; rintro e w1 ⟨rfl, hb⟩; have HW := Lib.hid hb; have hsz := hb.size; clear hb)
  go_ret2
  exact ⟨rfl, by (repeat' (first | (with_reducible exact HW.out) | (with_reducible exact HB5.out) | (with_reducible refine Bel.setCell ?_ (by first | exact Nat.le_refl _ | (simp; omega) | omega | (simp <;> omega)) _) | (with_reducible refine Bel.alloc ?_ (by first | exact Nat.le_refl _ | (simp; omega) | omega | (simp <;> omega)) _) | (with_reducible refine Bel.drew ?_) | (with_reducible refine Bel.drewN ?_ _)))⟩

set_option maxRecDepth 100000 in
set_option maxHeartbeats 2000000 in
theorem whole_yes (s : ByteArray) (w : World) (hs : s.size ≤ 50000) (x : NP) (hx : splitL s.data.toList = some x) : WH s w (wholeV (readV x)) := by
  have hsp := fun w => split_any s w (by omega)
  obtain ⟨xl1, xl2, xl3⟩ := split_len hx
  rw [len_toList] at xl1 xl2 xl3
  rw [hx] at hsp
  clear hx
  simp only [splitV] at hsp
  have hrd := fun w => read_any x.m (bs x.w) (bs x.f) (bs x.e) w (by rw [bs_size]; omega) (by rw [bs_size]; omega) (by rw [bs_size]; omega)
  simp only [bs_list] at hrd
  rw [show (⟨x.m, x.w, x.f, x.e⟩ : NP) = x from rfl] at hrd
  generalize readV x = V at *
  obtain ⟨vm, vd, vp⟩ := V
  simp only [valV] at hrd
  unfold WH
  obtain ⟨d, hd⟩ : ∃ d : ByteArray, d = bs vd := ⟨_, rfl⟩
  have hdl : d.data.toList = vd := by rw [hd, bs_list]
  rw [← hd] at hrd
  rw [← hdl]
  clear hd hdl
  have HR := Lib.hid (show wholeV ⟨vm, d.data.toList, vp⟩ = if d.data.toList = [] then (0, true) else if 16 < vp ∨ vp < (d.size : Int) then (0, false) else capI (if vm then -(wl d.data.toList vp.toNat) else wl d.data.toList vp.toNat) by unfold wholeV; rw [len_toList])
  generalize wholeV ⟨vm, d.data.toList, vp⟩ = r at *
  rcases Nat.eq_zero_or_pos d.size with h0 | h0
  · have h1 := te_t h0
    have HR := Lib.hid (HR.out.trans (if_pos (List.eq_nil_of_length_eq_zero (by simpa using h0))))
    clear h0
    go_enter Tryd.func13, Tryd.ntmps13
    go_wp2_with (first
      | (go_at_call 15; refine (hsp _).mono ?_; rintro e w1 ⟨rfl, hb⟩; have HW := Lib.hid hb; have hsz := hb.size; clear hb)
      | (go_at_call 16; refine (hrd _).mono ?_; rintro e w2 ⟨rfl, hb⟩; have HW := Lib.hid ((HW.out.alloc (by omega) _).next hb); have hsz := HW.out.size; clear hb))
    go_ret2
    exact ⟨ret_ib (by rw [HR.out]) (by rw [HR.out]), by (repeat' (first | (with_reducible exact HW.out) | (with_reducible exact HB5.out) | (with_reducible refine Bel.setCell ?_ (by first | exact Nat.le_refl _ | (simp; omega) | omega | (simp <;> omega)) _) | (with_reducible refine Bel.alloc ?_ (by first | exact Nat.le_refl _ | (simp; omega) | omega | (simp <;> omega)) _) | (with_reducible refine Bel.drew ?_) | (with_reducible refine Bel.drewN ?_ _)))⟩
  · have h1 := te_f h0
    have HR := Lib.hid (HR.out.trans (if_neg (ne_nil h0)))
    by_cases h2 : 16 < vp
    · have HR := Lib.hid (HR.out.trans (if_pos (.inl h2)))
      go_enter Tryd.func13, Tryd.ntmps13
      go_wp2_with (first
        | (go_at_call 15; refine (hsp _).mono ?_; rintro e w1 ⟨rfl, hb⟩; have HW := Lib.hid hb; have hsz := hb.size; clear hb)
        | (go_at_call 16; refine (hrd _).mono ?_; rintro e w2 ⟨rfl, hb⟩; have HW := Lib.hid ((HW.out.alloc (by omega) _).next hb); have hsz := HW.out.size; clear hb))
      go_ret2
      exact ⟨ret_ib (by rw [HR.out]) (by rw [HR.out]), by (repeat' (first | (with_reducible exact HW.out) | (with_reducible exact HB5.out) | (with_reducible refine Bel.setCell ?_ (by first | exact Nat.le_refl _ | (simp; omega) | omega | (simp <;> omega)) _) | (with_reducible refine Bel.alloc ?_ (by first | exact Nat.le_refl _ | (simp; omega) | omega | (simp <;> omega)) _) | (with_reducible refine Bel.drew ?_) | (with_reducible refine Bel.drewN ?_ _)))⟩
    · by_cases h3 : vp < (d.size : Int)
      · have HR := Lib.hid (HR.out.trans (if_pos (.inr h3)))
        go_enter Tryd.func13, Tryd.ntmps13
        go_wp2_with (first
          | (go_at_call 15; refine (hsp _).mono ?_; rintro e w1 ⟨rfl, hb⟩; have HW := Lib.hid hb; have hsz := hb.size; clear hb)
          | (go_at_call 16; refine (hrd _).mono ?_; rintro e w2 ⟨rfl, hb⟩; have HW := Lib.hid ((HW.out.alloc (by omega) _).next hb); have hsz := HW.out.size; clear hb))
        go_ret2
        exact ⟨ret_ib (by rw [HR.out]) (by rw [HR.out]), by (repeat' (first | (with_reducible exact HW.out) | (with_reducible exact HB5.out) | (with_reducible refine Bel.setCell ?_ (by first | exact Nat.le_refl _ | (simp; omega) | omega | (simp <;> omega)) _) | (with_reducible refine Bel.alloc ?_ (by first | exact Nat.le_refl _ | (simp; omega) | omega | (simp <;> omega)) _) | (with_reducible refine Bel.drew ?_) | (with_reducible refine Bel.drewN ?_ _)))⟩
      · have HR := Lib.hid (HR.out.trans (if_neg (by rintro (h | h) <;> omega)))
        obtain ⟨p, rfl⟩ : ∃ p : Nat, vp = p := ⟨vp.toNat, by omega⟩
        have hp16 : p ≤ 16 := by omega
        have hpd : d.size ≤ p := by omega
        rw [Int.toNat_natCast] at HR
        clear h2 h3 h0
        go_enter Tryd.func13, Tryd.ntmps13
        go_upto_region 11 with (first
          | (go_at_call 15; refine (hsp _).mono ?_; rintro e w1 ⟨rfl, hb⟩; have HW := Lib.hid hb; have hsz := hb.size; clear hb)
          | (go_at_call 16; refine (hrd _).mono ?_; rintro e w2 ⟨rfl, hb⟩; have HW := Lib.hid ((HW.out.alloc (by omega) _).next hb); have hsz := HW.out.size; clear hb))
        go_wp2
        go_loop [7, 34] (fun v i => ∃ (k : Nat) (y : Int), k ≤ p ∧ v = .int .i64 y ∧ i = .int .i64 k ∧ 0 ≤ y ∧ y ≤ 300000000000000000 ∧ Hid (wl d.data.toList k = y)) (fun _ i => p - (intOf i).toNat)
        case atStart => exact ⟨0, 0, by omega, rfl, rfl, by omega, by omega, Lib.hid rfl⟩
        case round =>
          obtain ⟨k, y, hk, rfl, rfl, hy0, hy1, HY⟩ := hrel
          by_cases hlt : k < p
          · have hb2 := wl_bd16 d.data.toList (k + 1) (by omega)
            have e2 : wl d.data.toList (k + 1) = y * 10 + dg d.data.toList k := by rw [wl, HY.out]
            by_cases hkd : k < d.size
            · rw [dg_in hkd] at e2
              rw [e2] at hb2
              obtain ⟨hb20, hb21⟩ := hb2
              have HE2 := Lib.hid e2; clear e2
              go_wp2
              go_round
              case rel => exact ⟨k + 1, _, by omega, rfl, by go_num, hb20, hb21, HE2⟩
              case measure => simp [intOf]; omega
            · rw [dg_out (by omega)] at e2
              rw [e2] at hb2
              obtain ⟨hb20, hb21⟩ := hb2
              have HE2 := Lib.hid (e2.trans (by omega : _ = y * 10)); clear e2
              go_wp2
              go_round
              case rel => exact ⟨k + 1, _, by omega, rfl, by go_num, by omega, by omega, HE2⟩
              case measure => simp [intOf]; omega
          · have HS := Lib.hid (show r = capI (if vm then -y else y) by rw [HR.out, ← HY.out, show k = p by omega])
            clear HY HR
            cases vm with
            | false =>
              have HT := Lib.hid (show r = if 9007199254740991 < y ∨ y < -9007199254740991 then (0, false) else (y, true) from HS.out)
              clear HS
              by_cases c1 : 9007199254740991 < y
              · have HV := Lib.hid (HT.out.trans (if_pos (.inl c1)))
                go_wp2
                go_ret2
                exact ⟨ret_ib (by rw [HV.out]) (by rw [HV.out]), by (repeat' (first | (with_reducible exact HW.out) | (with_reducible exact HB5.out) | (with_reducible refine Bel.setCell ?_ (by first | exact Nat.le_refl _ | (simp; omega) | omega | (simp <;> omega)) _) | (with_reducible refine Bel.alloc ?_ (by first | exact Nat.le_refl _ | (simp; omega) | omega | (simp <;> omega)) _) | (with_reducible refine Bel.drew ?_) | (with_reducible refine Bel.drewN ?_ _)))⟩
              · by_cases c2 : y < -9007199254740991
                · exfalso; omega
                · have HV := Lib.hid (HT.out.trans (if_neg (by rintro (h | h) <;> omega)))
                  go_wp2
                  go_ret2
                  exact ⟨ret_ib (by rw [HV.out]) (by rw [HV.out]), by (repeat' (first | (with_reducible exact HW.out) | (with_reducible exact HB5.out) | (with_reducible refine Bel.setCell ?_ (by first | exact Nat.le_refl _ | (simp; omega) | omega | (simp <;> omega)) _) | (with_reducible refine Bel.alloc ?_ (by first | exact Nat.le_refl _ | (simp; omega) | omega | (simp <;> omega)) _) | (with_reducible refine Bel.drew ?_) | (with_reducible refine Bel.drewN ?_ _)))⟩

            | true =>
              have HT := Lib.hid (show r = if 9007199254740991 < -y ∨ -y < -9007199254740991 then (0, false) else (-y, true) from HS.out)
              clear HS
              by_cases c1 : 9007199254740991 < -y
              · exfalso; omega
              · by_cases c2 : -y < -9007199254740991
                · have HV := Lib.hid (HT.out.trans (if_pos (.inr c2)))
                  go_wp2
                  go_ret2
                  exact ⟨ret_ib (by rw [HV.out]) (by rw [HV.out]), by (repeat' (first | (with_reducible exact HW.out) | (with_reducible exact HB5.out) | (with_reducible refine Bel.setCell ?_ (by first | exact Nat.le_refl _ | (simp; omega) | omega | (simp <;> omega)) _) | (with_reducible refine Bel.alloc ?_ (by first | exact Nat.le_refl _ | (simp; omega) | omega | (simp <;> omega)) _) | (with_reducible refine Bel.drew ?_) | (with_reducible refine Bel.drewN ?_ _)))⟩
                · have HV := Lib.hid (HT.out.trans (if_neg (by rintro (h | h) <;> omega)))
                  go_wp2
                  go_ret2
                  exact ⟨ret_ib (by rw [HV.out]) (by rw [HV.out]), by (repeat' (first | (with_reducible exact HW.out) | (with_reducible exact HB5.out) | (with_reducible refine Bel.setCell ?_ (by first | exact Nat.le_refl _ | (simp; omega) | omega | (simp <;> omega)) _) | (with_reducible refine Bel.alloc ?_ (by first | exact Nat.le_refl _ | (simp; omega) | omega | (simp <;> omega)) _) | (with_reducible refine Bel.drew ?_) | (with_reducible refine Bel.drewN ?_ _)))⟩


/-- num.Whole. -/
def wholeL (l : L8) : Int × Bool := match splitL l with | none => (0, false) | some x => wholeV (readV x)
theorem whole_any (s : ByteArray) (w : World) (hs : s.size ≤ 50000) : WH s w (wholeL s.data.toList) := by
  unfold wholeL
  cases hx : splitL s.data.toList with
  | none => exact whole_no s w hs hx
  | some x => exact whole_yes s w hs x hx

end Go.Proofs.YtdfamphnilelnaaDoor
