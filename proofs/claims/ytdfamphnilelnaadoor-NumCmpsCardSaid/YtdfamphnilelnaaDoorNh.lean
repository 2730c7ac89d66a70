/- num.Whole and ref10.Whole agree: plain. -/
import Derived.Test.YtdfamphnilelnaaDoorNg0
namespace Go.Proofs.YtdfamphnilelnaaDoor
open Go.RowKit

def rl (ds : List Int) (z : Nat) : Nat → Int
  | 0 => 0
  | k + 1 => rl ds z k * 10 + atD ds ((z + k : Nat) : Int)
/-- What ref10.Whole answers of a number that was read. -/
def wholeRV (m : Bool) (ds : List Int) (pt ex : Int) : Int × Bool :=
  if ds.all (· == 0) then (0, true)
  else if pt + ex - 1 - ((ds.length - 1 - tz ds : Nat) : Int) < 0 ∨ 15 < pt + ex - 1 - (lz ds : Int) then (0, false)
  else capI (if m then -(rl ds (lz ds) (pt + ex - (lz ds : Int)).toNat) else rl ds (lz ds) (pt + ex - (lz ds : Int)).toNat)
def wholeR (l : L8) : Int × Bool := match splitL l with | none => (0, false) | some x => wholeRV x.m (dI (x.w ++ x.f)) x.w.length (expR x.e)

theorem atD_nat (ds : List Int) (k : Nat) : atD ds (k : Int) = ds.getD k 0 := by unfold atD; rw [if_neg (by omega)]; rfl
theorem lz_all : ∀ (l : List Int), l.all (· == 0) = true → lz l = l.length
  | [], _ => rfl
  | c :: r, h => by
    simp only [List.all_cons, Bool.and_eq_true, beq_iff_eq] at h
    rw [lz, if_pos h.1, lz_all r h.2]; rfl
theorem lz_zeroD (l : List Int) (i : Nat) (hi : i < lz l) : l.getD i 0 = 0 := by
  have h := lz_le l
  have := lz_zero l i (by omega) hi
  simp [List.getD_eq_getElem?_getD, show i < l.length by omega, this]
theorem lz_notD (l : List Int) (h : lz l < l.length) : l.getD (lz l) 0 ≠ 0 := by
  have := lz_not l h
  simp [List.getD_eq_getElem?_getD, h, this]
theorem getD_rev (l : List Int) (i : Nat) (h : i < l.length) : l.reverse.getD i 0 = l.getD (l.length - 1 - i) 0 := by
  rw [List.getD_eq_getElem?_getD, List.getD_eq_getElem?_getD, List.getElem?_reverse h]
theorem tz_zeroD (l : List Int) (i : Nat) (h : i < tz l) : l.getD (l.length - 1 - i) 0 = 0 := by
  have h1 := lz_le l.reverse
  rw [List.length_reverse] at h1
  rw [← getD_rev l i (by unfold tz at h; omega)]
  exact lz_zeroD _ i h
theorem tz_lt (l : List Int) (h : l.all (· == 0) = false) : tz l < l.length := by
  have := lz_lt l.reverse (by rw [all_rev]; exact h)
  rw [List.length_reverse] at this; exact this
theorem tz_notD (l : List Int) (h : l.all (· == 0) = false) : l.getD (l.length - 1 - tz l) 0 ≠ 0 := by
  have h1 := tz_lt l h
  rw [← getD_rev l _ h1]
  exact lz_notD l.reverse (by rw [List.length_reverse]; exact h1)
theorem lz_tz (l : List Int) (h : l.all (· == 0) = false) : lz l + tz l < l.length := by
  have h1 := tz_lt l h
  rcases Nat.lt_or_ge (l.length - 1 - tz l) (lz l) with hlt | hge
  · exact absurd (lz_zeroD l _ hlt) (tz_notD l h)
  · omega
theorem lz_take : ∀ (l : List Int) (n : Nat), lz l < n → lz (l.take n) = lz l
  | [], n, _ => by simp [lz]
  | c :: r, 0, h => by omega
  | c :: r, n + 1, h => by
    rw [List.take_succ_cons, lz, lz]
    rw [lz] at h
    split
    · rename_i hc; rw [if_pos hc] at h; rw [lz_take r n (by omega)]
    · rfl
theorem tz_drop (l : List Int) (h : l.all (· == 0) = false) : tz (l.drop (lz l)) = tz l := by
  have h1 := lz_tz l h
  unfold tz
  rw [List.reverse_drop]
  exact lz_take _ _ (by unfold tz at h1; omega)
theorem dI_drop (l : L8) (n : Nat) : dI (l.drop n) = (dI l).drop n := by simp [dI]
theorem trim_nil {l : L8} (h : (dI l).all (· == 0) = true) : tB (tF l) = [] := by
  have e : tF l = [] := by
    rw [tF_drop, lz_all _ h, dI_len, List.drop_length]
  rw [e]; rfl
theorem trim_eq {l : L8} (h : (dI l).all (· == 0) = false) : tB (tF l) = (l.drop (lz (dI l))).take (l.length - lz (dI l) - tz (dI l)) := by
  rw [tF_drop, tB_take, dI_drop, tz_drop _ h, List.length_drop]
theorem dI_getD {l : L8} {k : Nat} (h : k < l.length) : (dI l).getD k 0 = ((l.getD k 0).toNat : Int) - 48 := by
  simp [dI, List.getD_eq_getElem?_getD, h]
theorem dig_at {l : L8} (h : l.all isDig = true) {k : Nat} (hk : k < l.length) : 48 ≤ ((l.getD k 0).toNat : Int) ∧ ((l.getD k 0).toNat : Int) ≤ 57 := by
  have : isDig (l.getD k 0) = true := by
    rw [List.all_eq_true] at h
    simp only [List.getD_eq_getElem?_getD, List.getElem?_eq_getElem hk, Option.getD_some]
    exact h _ (List.getElem_mem hk)
  exact dig_bd this
theorem dg_trim {l : L8} (h : (dI l).all (· == 0) = false) (hd : l.all isDig = true) (k : Nat) : dg (tB (tF l)) k = atD (dI l) ((lz (dI l) + k : Nat) : Int) := by
  have h1 := lz_tz _ h
  rw [dI_len] at h1
  rw [trim_eq h, atD_nat]
  unfold dg
  have hl : ((l.drop (lz (dI l))).take (l.length - lz (dI l) - tz (dI l))).length = l.length - lz (dI l) - tz (dI l) := by
    rw [List.length_take, List.length_drop]; omega
  rw [hl]
  split
  · rename_i hk
    have hk2 : lz (dI l) + k < l.length := by omega
    rw [dI_getD hk2]
    have e : ((l.drop (lz (dI l))).take (l.length - lz (dI l) - tz (dI l))).getD k 0 = l.getD (lz (dI l) + k) 0 := by
      simp only [List.getD_eq_getElem?_getD, List.getElem?_take, List.getElem?_drop]
      rw [if_pos hk]
    rw [e]
    have := dig_at hd hk2
    omega
  · rename_i hk
    rcases Nat.lt_or_ge (lz (dI l) + k) l.length with hlt | hge
    · have := tz_zeroD (dI l) (l.length - 1 - (lz (dI l) + k)) (by omega)
      rw [dI_len] at this
      rw [show l.length - 1 - (l.length - 1 - (lz (dI l) + k)) = lz (dI l) + k by omega] at this
      exact this.symm
    · rw [List.getD_eq_getElem?_getD, List.getElem?_eq_none (by rw [dI_len]; exact hge)]; rfl
theorem wl_rl {l : L8} (h : (dI l).all (· == 0) = false) (hd : l.all isDig = true) : ∀ k, wl (tB (tF l)) k = rl (dI l) (lz (dI l)) k
  | 0 => rfl
  | k + 1 => by rw [wl, rl, wl_rl h hd k, dg_trim h hd]
theorem whole_eq {l : L8} {x : NP} (h : splitL l = some x) (hl : l.length ≤ 100000) : wholeV (readV x) = wholeRV x.m (dI (x.w ++ x.f)) x.w.length (expR x.e) := by
  obtain ⟨d1, d2, d3, _⟩ := split_dig h
  obtain ⟨s1, s2, s3⟩ := split_len h
  have hd : (x.w ++ x.f).all isDig = true := by rw [List.all_append, d1, d2]; rfl
  have hL : (x.w ++ x.f).length ≤ 200000 := by rw [List.length_append]; omega
  have hE := exp_same x.e d3
  have hw : (x.w.length : Int) ≤ 100000 := by omega
  have hw0 : 0 ≤ (x.w.length : Int) := by omega
  unfold readV trimV
  generalize x.w ++ x.f = D at *
  generalize (x.w.length : Int) = P at *
  generalize powI x.e = E at *
  generalize expR x.e = F at *
  simp only
  cases hz : (dI D).all (· == 0) with
  | true =>
    rw [trim_nil hz]
    unfold wholeV wholeRV
    rw [hz]; rfl
  | false =>
    have h1 := lz_tz _ hz
    rw [dI_len] at h1
    have hlen : (tB (tF D)).length = D.length - lz (dI D) - tz (dI D) := by rw [trim_eq hz, List.length_take, List.length_drop]; omega
    have hne : tB (tF D) ≠ [] := by intro e; rw [e] at hlen; simp at hlen; omega
    have hft : (tF D).length = D.length - lz (dI D) := by rw [tF_drop, List.length_drop]
    rw [if_neg hne]
    unfold wholeV wholeRV
    simp only [hz, hlen, hft, dI_len, hne, if_false, Bool.false_eq_true]
    by_cases c : P + F - 1 - ((D.length - 1 - tz (dI D) : Nat) : Int) < 0 ∨ 15 < P + F - 1 - (lz (dI D) : Int)
    · rw [if_pos c, if_pos (by omega)]
    · have hEF : E = F := by omega
      subst hEF
      rw [if_neg c, if_neg (by omega), wl_rl hz hd, show P + E - ((D.length : Int) - ((D.length - lz (dI D) : Nat) : Int)) = P + E - (lz (dI D) : Int) by omega]
theorem wholeL_eq (l : L8) (hl : l.length ≤ 100000) : wholeL l = wholeR l := by
  unfold wholeL wholeR
  cases h : splitL l with
  | none => rfl
  | some x => exact whole_eq h hl

end Go.Proofs.YtdfamphnilelnaaDoor
