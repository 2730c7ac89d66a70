/- Plain: numbers as they are written, with noughts and exponents. -/
import Derived.Test.YtdfamphnilelnaaDoorDp
import Derived.Test.YtdfamphnilelnaaDoorNh
import Derived.Test.YtdfamphnilelnaaDoorDh
namespace Go.Proofs.YtdfamphnilelnaaDoor
open Go.RowKit

theorem tF_zeros : ∀ (z : Nat) (l : L8), tF (List.replicate z 48 ++ l) = tF l
  | 0, l => rfl
  | z + 1, l => by rw [List.replicate_succ, List.cons_append, tF, if_pos rfl]; exact tF_zeros z l
theorem tB_zeros (X : L8) (z : Nat) : tB (X ++ List.replicate z 48) = tB X := by
  unfold tB
  rw [List.reverse_append, List.reverse_replicate, tF_zeros]
theorem trim_zeros (m : Bool) (D : L8) (P : Int) (z : Nat) : trimV ⟨m, D ++ List.replicate z 48, P⟩ = trimV ⟨m, D, P⟩ := by
  have hz : tF (List.replicate z (48 : UInt8)) = [] := by have := tF_zeros z []; rw [List.append_nil] at this; exact this
  unfold trimV
  simp only [tF_app]
  by_cases h : tF D = []
  · simp only [h, if_true, hz]; rfl
  · simp only [h, if_false, tB_zeros, List.length_append]
    split
    · rfl
    · congr 1; omega
theorem digN_app : ∀ (D r : L8), D.all isDig = true → digN (D ++ r) = D.length + digN r
  | [], r, _ => by simp
  | c :: D, r, h => by
    simp only [List.all_cons, Bool.and_eq_true] at h
    rw [List.cons_append, digN, if_pos h.1, digN_app D r h.2, List.length_cons]; omega
/-- A number's parts, from ahead. -/
theorem split_num (m : Bool) (D r : L8) (hD : D.all isDig = true) (h48 : D.length = 1 ∨ hd D 48 = false) (h0 : D ≠ []) (hr : digN r = 0) :
    splitL (if m then 45 :: (D ++ r) else D ++ r) = spl3 m D r := by
  have hl : 1 ≤ D.length := by cases D with | nil => exact absurd rfl h0 | cons => simp
  have hn : digN (D ++ r) = D.length := by rw [digN_app D r hD, hr]; rfl
  have hh : ∀ c, hd (D ++ r) c = hd D c := fun c => by cases D with | nil => exact absurd rfl h0 | cons => rfl
  have h2 : ∀ m, spl2 m (D ++ r) = spl3 m D r := fun m => by
    have hb : badI (D ++ r) = false := by
      unfold badI
      rw [hn, hh, beq_eq_false_iff_ne.2 (by omega)]
      rcases h48 with h | h
      · rw [decide_eq_false (by omega)]; rfl
      · rw [h]; simp
    unfold spl2
    rw [hb, hn, List.take_left, List.drop_left]; rfl
  cases m
  · have h45 : hd (D ++ r) 45 = false := by
      rw [hh]
      cases D with
      | nil => rfl
      | cons c D =>
        simp only [List.all_cons, Bool.and_eq_true] at hD
        have := dig_bd hD.1
        show (c == 45) = false
        rw [beq_eq_false_iff_ne]; intro e; rw [e] at this
        have h45 : (45 : UInt8).toNat = 45 := rfl
        omega
    show splitL (D ++ r) = _
    unfold splitL; rw [h45]; exact h2 false
  · exact h2 true
theorem spl3_nil (m : Bool) (D : L8) : spl3 m D [] = some ⟨m, D, [], []⟩ := rfl
theorem spl3_pt (m : Bool) (D : L8) (z : Nat) (hz : 1 ≤ z) : spl3 m D (46 :: List.replicate z 48) = some ⟨m, D, List.replicate z 48, []⟩ := by
  have hd : digN (List.replicate z (48 : UInt8)) = z := by
    have := digN_all (List.replicate z 48) (by rw [List.all_eq_true]; intro c hc; rw [List.mem_replicate] at hc; rw [hc.2]; rfl)
    rw [List.length_replicate] at this; exact this
  have hhd : Go.Proofs.YtdfamphnilelnaaDoor.hd (46 :: List.replicate z 48) 46 = true := rfl
  unfold spl3
  rw [if_pos hhd]
  simp only [List.drop_succ_cons, List.drop_zero, hd]
  rw [if_neg (by omega), List.take_of_length_le (by simp), List.drop_of_length_le (by simp)]
  rfl
theorem spl3_e (m : Bool) (D e : L8) (c : UInt8) (hc : c = 101 ∨ c = 69) (he : (strip e).all isDig = true) (hne : strip e ≠ []) : spl3 m D (c :: e) = some ⟨m, D, [], e⟩ := by
  have h1 : hd (c :: e) 46 = false := by rcases hc with rfl | rfl <;> rfl
  have h2 : (hd (c :: e) 101 || hd (c :: e) 69) = true := by rcases hc with rfl | rfl <;> rfl
  unfold spl3
  rw [h1]
  show spl4 m D [] (c :: e) = _
  unfold spl4
  rw [if_neg (by simp), if_pos h2]
  show spl5 m D [] e = _
  rw [spl5_eq]
  have hs : (if hd e 45 || hd e 43 then e.drop 1 else e) = strip e := rfl
  rw [hs, if_pos ⟨hne, digN_all _ he⟩]
/-- Of digits. -/
theorem natD_ok (n : Int) : (natD n).all isDig = true ∧ ((natD n).length = 1 ∨ hd (natD n) 48 = false) ∧ natD n ≠ [] := by
  refine ⟨dd_dig _, ?_, ?_⟩
  · unfold natD
    by_cases h : n.natAbs = 0
    · left; rw [h, Lib.decDigits]; rfl
    · right
      obtain ⟨c, r, e, hc⟩ := dd_head n.natAbs (by omega)
      rw [e]; exact beq_eq_false_iff_ne.2 hc
  · unfold natD
    intro e
    have := dd_len n.natAbs
    rw [e] at this
    split at this <;> simp at this
theorem itoa_if (n : Int) (r : L8) : Lib.itoa n ++ r = if decide (n < 0) then 45 :: (natD n ++ r) else natD n ++ r := by
  by_cases h : n < 0
  · rw [itoa_neg' h, decide_eq_true h]; rfl
  · rw [itoa_pos' h, decide_eq_false h]; rfl
def zL (z : Nat) : L8 := if z = 0 then [] else 46 :: List.replicate z 48
theorem powI_nil : powI [] = 0 := rfl
theorem read_itoa (n : Int) (z : Nat) : ∃ x, splitL (Lib.itoa n ++ zL z) = some x ∧ readV x = wnV n := by
  obtain ⟨a, b, c⟩ := natD_ok n
  rw [itoa_if]
  unfold zL
  by_cases h : z = 0
  · rw [if_pos h, split_num _ _ _ a b c rfl, spl3_nil]
    refine ⟨_, rfl, ?_⟩
    unfold readV wnV
    simp only [powI_nil, List.append_nil, Int.add_zero]
  · rw [if_neg h, split_num _ _ _ a b c rfl, spl3_pt _ _ _ (by omega)]
    refine ⟨_, rfl, ?_⟩
    unfold readV wnV
    simp only [powI_nil, Int.add_zero]
    exact trim_zeros _ _ _ _
theorem cmp_wn (n k : Int) (n0 : -9223372036854775808 ≤ n) (n1 : n ≤ 9223372036854775807) (k0 : -9223372036854775808 ≤ k) (k1 : k ≤ 9223372036854775807) :
    cmpVV (wnV n) (wnV k) = if n < k then -1 else if k < n then 1 else 0 := by
  rw [cmpVV_sgn, side_w, side_w]
  have ln := natD_len20 n n0 n1; have lk := natD_len20 k k0 k1
  have en := sgn_c n; have ek := sgn_c k
  have h1 : n ≠ 0 → k ≠ 0 → n.natAbs < k.natAbs → keyV (wnV n) < keyV (wnV k) := fun a b h => key_mono n k a b lk h
  have h2 : n ≠ 0 → k ≠ 0 → k.natAbs < n.natAbs → keyV (wnV k) < keyV (wnV n) := fun a b h => key_mono k n b a ln h
  have h3 : n ≠ 0 → n.natAbs = k.natAbs → keyV (wnV n) = keyV (wnV k) := fun a h => key_same n k h a
  have ed := sgn_c (keyV (wnV n) - keyV (wnV k))
  generalize keyV (wnV n) = A at *
  generalize keyV (wnV k) = B at *
  generalize sgn (A - B) = s at *
  generalize sgn n = p at *
  generalize sgn k = q at *
  rcases en with ⟨rfl, e1⟩ | ⟨rfl, e1⟩ | ⟨rfl, e1⟩ <;> rcases ek with ⟨rfl, e2⟩ | ⟨rfl, e2⟩ | ⟨rfl, e2⟩ <;> (try simp) <;> (repeat' split) <;> omega
theorem rl_val (D : L8) : ∀ k, k ≤ D.length → rl (dI D) 0 k = valD (D.take k)
  | 0, _ => rfl
  | k + 1, h => by
    rw [rl, rl_val D k (by omega), List.take_succ_eq_append_getElem (by omega : k < D.length), valD_snoc, Nat.zero_add, atD_nat, dI_getD (by omega)]
    simp [List.getD_eq_getElem?_getD, show k < D.length by omega]
theorem whole_wn (n : Int) : wholeV (wnV n) = capI n := by
  by_cases h : n = 0
  · subst h; rw [wnV_zero]; rfl
  · obtain ⟨e, hb⟩ := wnV_eq n h
    obtain ⟨c, r, er, hc⟩ := dd_head n.natAbs (by omega)
    have eD : natD n = c :: r := er
    have hdig := dd_dig n.natAbs
    rw [er] at hdig
    have hv : valD (natD n) = n.natAbs := dd_val _
    have hlen : (tB (natD n)).length ≤ (natD n).length := by rw [tB_take, List.length_take]; omega
    simp only [List.all_cons, Bool.and_eq_true] at hdig
    have hcb := dig_bd hdig.1
    have hc48 : (c.toNat : Int) ≠ 48 := by
      intro e48; apply hc; rw [← UInt8.toNat_inj]; have : (48 : UInt8).toNat = 48 := rfl; omega
    rw [e]; unfold wholeV
    rw [if_neg hb]
    by_cases h16 : 16 < ((natD n).length : Int)
    · rw [if_pos (.inl h16)]
      have hbig : (10000000000000000 : Int) ≤ n.natAbs := by
        rw [← hv, eD, valD_cons]
        have hr := valD_bd r hdig.2
        rw [eD, List.length_cons] at h16
        have h1 : 10 ^ 16 ≤ 10 ^ r.length := Nat.pow_le_pow_right (by omega) (by omega)
        have h2 : (10 : Nat) ^ 16 = 10000000000000000 := by decide
        have h3 : (1 : Int) * ((10 ^ r.length : Nat) : Int) ≤ ((c.toNat : Int) - 48) * ((10 ^ r.length : Nat) : Int) := Int.mul_le_mul_of_nonneg_right (by omega) (by omega)
        have h4 : (10000000000000000 : Int) ≤ ((10 ^ r.length : Nat) : Int) := by rw [h2] at h1; exact Int.ofNat_le.2 h1
        omega
      unfold capI; rw [if_pos (by omega)]
    · rw [if_neg (by simp only; omega)]
      have hz : lz (dI (natD n)) = 0 := by
        rw [eD]; show (if (c.toNat : Int) - 48 = 0 then lz (dI r) + 1 else 0) = 0
        rw [if_neg (by omega)]
      have ha : (dI (natD n)).all (· == 0) = false := by
        rw [eD]; show ((((c.toNat : Int) - 48) == 0) && _) = false
        rw [beq_eq_false_iff_ne.2 (by omega)]; rfl
      have ht : tF (natD n) = natD n := by rw [eD, tF, if_neg hc]
      have hw := wl_rl ha (dd_dig n.natAbs) (natD n).length
      rw [ht, hz, rl_val _ _ (Nat.le_refl _), List.take_length, hv] at hw
      simp only [Int.toNat_natCast]
      rw [hw]
      by_cases hn : n < 0
      · rw [decide_eq_true hn, if_pos rfl]; congr 1; omega
      · rw [decide_eq_false hn, if_neg (by simp)]; congr 1; omega
/-- Of a whole number as it is written. -/
theorem nw_plain (n k : Int) (z : Nat) (n0 : -9223372036854775808 ≤ n) (n1 : n ≤ 9223372036854775807) (k0 : -9223372036854775808 ≤ k) (k1 : k ≤ 9223372036854775807) :
    cmpL (Lib.itoa n ++ zL z) k = (if n < k then -1 else if k < n then 1 else 0) ∧ wholeL (Lib.itoa n ++ zL z) = capI n := by
  obtain ⟨x, h1, h2⟩ := read_itoa n z
  unfold cmpL wholeL
  simp only [h1, h2]
  exact ⟨cmp_wn n k n0 n1 k0 k1, whole_wn n⟩

end Go.Proofs.YtdfamphnilelnaaDoor
