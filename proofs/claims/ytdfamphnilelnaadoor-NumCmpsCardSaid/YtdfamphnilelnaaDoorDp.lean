/- Values of whole numbers in order: plain. -/
import Derived.Test.YtdfamphnilelnaaDoorDc
import Derived.Test.YtdfamphnilelnaaDoorNg0
namespace Go.Proofs.YtdfamphnilelnaaDoor
open Go.RowKit

/-- Digits' bytes as a number of base 256, n of them. -/
def NFl : L8 → Nat → Int
  | [], _ => 0
  | _ :: _, 0 => 0
  | c :: r, n + 1 => (c.toNat : Int) * ((256 ^ n : Nat) : Int) + NFl r n
theorem pw_pos (n : Nat) : 1 ≤ ((256 ^ n : Nat) : Int) := by
  have := Nat.pow_pos (n := n) (show 0 < 256 by omega)
  exact Int.ofNat_le.2 this
theorem pw_succ (n : Nat) : ((256 ^ (n + 1) : Nat) : Int) = ((256 ^ n : Nat) : Int) * 256 := by
  rw [Nat.pow_succ]; omega
theorem NFl_bd : ∀ (l : L8) (n : Nat), 0 ≤ NFl l n ∧ NFl l n + 1 ≤ ((256 ^ n : Nat) : Int)
  | [], n => by
    have := pw_pos n
    show (0 : Int) ≤ 0 ∧ (0 : Int) + 1 ≤ ((256 ^ n : Nat) : Int)
    omega
  | _ :: _, 0 => by simp [NFl]
  | c :: r, n + 1 => by
    have h := NFl_bd r n
    have hc := c.toNat_lt
    have hp := pw_pos n
    rw [NFl, pw_succ]
    have h1 : (c.toNat : Int) * ((256 ^ n : Nat) : Int) ≤ 255 * ((256 ^ n : Nat) : Int) := Int.mul_le_mul_of_nonneg_right (by omega) (by omega)
    have h2 : 0 ≤ (c.toNat : Int) * ((256 ^ n : Nat) : Int) := Int.mul_nonneg (by omega) (by omega)
    omega
def sgn (x : Int) : Int := if x < 0 then -1 else if 0 < x then 1 else 0
theorem sgn_c (x : Int) : sgn x = -1 ∧ x < 0 ∨ sgn x = 0 ∧ x = 0 ∨ sgn x = 1 ∧ 0 < x := by
  unfold sgn; split
  · omega
  · split <;> omega
theorem NFl_drop (l : L8) (i n : Nat) : NFl (l.drop i) (n + 1) = pbI l i * ((256 ^ n : Nat) : Int) + NFl (l.drop (i + 1)) n := by
  unfold pbI
  rcases Nat.lt_or_ge i l.length with h | h
  · rw [List.drop_eq_getElem_cons h, NFl, List.getD_eq_getElem?_getD, List.getElem?_eq_getElem h]; rfl
  · rw [List.drop_of_length_le h, List.drop_of_length_le (by omega), List.getD_eq_getElem?_getD, List.getElem?_eq_none h]
    simp [NFl]
theorem mul_step {a b x y B : Int} (h : a + 1 ≤ b) (hx : x + 1 ≤ B) (hy : 0 ≤ y) (hB : 0 ≤ B) : a * B + x < b * B + y := by
  have h1 : (a + 1) * B ≤ b * B := Int.mul_le_mul_of_nonneg_right h hB
  rw [Int.add_mul, Int.one_mul] at h1
  omega
theorem lexF_sgn (a b : L8) : ∀ n i, lexF a b i n = sgn (NFl (a.drop i) n - NFl (b.drop i) n)
  | 0, i => by
    have h : ∀ l : L8, NFl l 0 = 0 := fun l => by cases l <;> rfl
    rw [h, h]; rfl
  | n + 1, i => by
    rw [lexF, NFl_drop, NFl_drop]
    have h1 := NFl_bd (a.drop (i + 1)) n; have h2 := NFl_bd (b.drop (i + 1)) n
    have hp := pw_pos n
    split
    · rename_i h
      have := mul_step (B := ((256 ^ n : Nat) : Int)) (x := NFl (a.drop (i + 1)) n) (y := NFl (b.drop (i + 1)) n) (a := pbI a i) (b := pbI b i) (by omega) h1.2 h2.1 (by omega)
      unfold sgn; rw [if_pos (by omega)]
    · rename_i h
      split
      · rename_i h'
        have := mul_step (B := ((256 ^ n : Nat) : Int)) (x := NFl (b.drop (i + 1)) n) (y := NFl (a.drop (i + 1)) n) (a := pbI b i) (b := pbI a i) (by omega) h2.2 h1.1 (by omega)
        unfold sgn; rw [if_neg (by omega), if_pos (by omega)]
      · rename_i h'
        have e : pbI a i = pbI b i := by omega
        rw [lexF_sgn a b n (i + 1), e]
        congr 1; omega
/-- What a value's size is held by. -/
def keyV (v : NV) : Int := v.p * 1461501637330902918203684832716283019655932542976 + NFl v.d 20
theorem NFl_20 (l : L8) : 0 ≤ NFl l 20 ∧ NFl l 20 < 1461501637330902918203684832716283019655932542976 := by
  have h := NFl_bd l 20
  have e : ((256 ^ 20 : Nat) : Int) = 1461501637330902918203684832716283019655932542976 := by decide
  omega
theorem sizeV_sgn (a b : NV) : sizeV a b = sgn (keyV a - keyV b) := by
  have h1 := NFl_20 a.d; have h2 := NFl_20 b.d
  unfold sizeV keyV
  split
  · unfold sgn; rw [if_pos (by omega)]
  · split
    · unfold sgn; rw [if_neg (by omega), if_pos (by omega)]
    · rw [lexF_sgn]
      simp only [List.drop_zero]
      congr 1; omega

/-- Noughts behind, from ahead. -/
theorem tF_app : ∀ (a b : L8), tF (a ++ b) = if tF a = [] then tF b else tF a ++ b
  | [], b => rfl
  | c :: r, b => by
    rw [List.cons_append, tF, tF]
    split
    · exact tF_app r b
    · rw [if_neg (by simp)]; rfl
theorem tB_cons (c : UInt8) (r : L8) : tB (c :: r) = if tB r = [] then (if c = 48 then [] else [c]) else c :: tB r := by
  unfold tB
  rw [List.reverse_cons, tF_app]
  by_cases h : tF r.reverse = []
  · rw [if_pos h, h]
    by_cases hc : c = 48 <;> simp [tF, hc]
  · rw [if_neg h, if_neg (by simpa using h), List.reverse_append]; rfl
/-- A row of digits as a number. -/
def valD (l : L8) : Int := l.foldl (fun n c => n * 10 + ((c.toNat : Int) - 48)) 0
theorem valD_go : ∀ (l : L8) (n : Int), l.foldl (fun n c => n * 10 + ((c.toNat : Int) - 48)) n = n * ((10 ^ l.length : Nat) : Int) + valD l
  | [], n => by simp [valD]
  | c :: r, n => by
    unfold valD
    rw [List.foldl_cons, List.foldl_cons, valD_go r, valD_go r, List.length_cons, Nat.pow_succ]
    have e : ((10 ^ r.length * 10 : Nat) : Int) = 10 * ((10 ^ r.length : Nat) : Int) := by omega
    rw [e, Int.add_mul, Int.add_mul, Int.mul_assoc, Int.zero_mul, Int.zero_mul]
    omega
theorem valD_cons (c : UInt8) (r : L8) : valD (c :: r) = ((c.toNat : Int) - 48) * ((10 ^ r.length : Nat) : Int) + valD r := by
  have := valD_go r (0 * 10 + ((c.toNat : Int) - 48))
  rw [show (0 : Int) * 10 + ((c.toNat : Int) - 48) = (c.toNat : Int) - 48 by omega] at this
  unfold valD
  rw [List.foldl_cons, show (0 : Int) * 10 + ((c.toNat : Int) - 48) = (c.toNat : Int) - 48 by omega]
  exact this
theorem valD_snoc (l : L8) (c : UInt8) : valD (l ++ [c]) = valD l * 10 + ((c.toNat : Int) - 48) := by
  unfold valD; rw [List.foldl_append]; rfl
theorem ten_pos (n : Nat) : 1 ≤ ((10 ^ n : Nat) : Int) := by
  have := Nat.pow_pos (n := n) (show 0 < 10 by omega)
  exact Int.ofNat_le.2 this
theorem valD_bd : ∀ l : L8, l.all isDig = true → 0 ≤ valD l ∧ valD l + 1 ≤ ((10 ^ l.length : Nat) : Int)
  | [], _ => by simp [valD]
  | c :: r, h => by
    simp only [List.all_cons, Bool.and_eq_true] at h
    have hc := dig_bd h.1
    have hr := valD_bd r h.2
    have hp := ten_pos r.length
    rw [valD_cons, List.length_cons, Nat.pow_succ]
    have h1 : ((c.toNat : Int) - 48) * ((10 ^ r.length : Nat) : Int) ≤ 9 * ((10 ^ r.length : Nat) : Int) := Int.mul_le_mul_of_nonneg_right (by omega) (by omega)
    have h2 : 0 ≤ ((c.toNat : Int) - 48) * ((10 ^ r.length : Nat) : Int) := Int.mul_nonneg (by omega) (by omega)
    have e : ((10 ^ r.length * 10 : Nat) : Int) = 10 * ((10 ^ r.length : Nat) : Int) := by omega
    omega
/-- The keys go with the numbers. -/
theorem NFl_mono : ∀ (l k : L8) (n : Nat), l.all isDig = true → k.all isDig = true → l.length = k.length → k.length ≤ n → valD l < valD k → NFl (tB l) n < NFl (tB k) n
  | [], [], n, _, _, _, _, h => by simp at h
  | [], _ :: _, n, _, _, hl, _, _ => by simp at hl
  | _ :: _, [], n, _, _, hl, _, _ => by simp at hl
  | _ :: _, _ :: _, 0, _, _, _, hn, _ => by simp at hn
  | c :: r, d :: s, n + 1, h1, h2, hl, hn, h => by
    simp only [List.all_cons, Bool.and_eq_true] at h1 h2
    have hc := dig_bd h1.1; have hd := dig_bd h2.1
    have hr := valD_bd r h1.2; have hs := valD_bd s h2.2
    simp only [List.length_cons, Nat.add_right_cancel_iff] at hl
    rw [valD_cons, valD_cons, hl] at h
    rw [hl] at hr
    have hp := pw_pos n
    have b1 := NFl_bd (tB r) n; have b2 := NFl_bd (tB s) n
    have hcd : ¬ (d.toNat : Int) < c.toNat := by
      intro hlt
      have := mul_step (B := ((10 ^ s.length : Nat) : Int)) (x := valD s) (y := valD r) (a := (d.toNat : Int) - 48) (b := (c.toNat : Int) - 48) (by omega) hs.2 hr.1 (by have := ten_pos s.length; omega)
      omega
    have hone : ∀ x : UInt8, NFl [x] (n + 1) = (x.toNat : Int) * ((256 ^ n : Nat) : Int) := fun x => by rw [NFl]; cases n <;> simp [NFl]
    have low : NFl (tB (c :: r)) (n + 1) ≤ (c.toNat : Int) * ((256 ^ n : Nat) : Int) + NFl (tB r) n := by
      have hcp : 0 ≤ (c.toNat : Int) * ((256 ^ n : Nat) : Int) := Int.mul_nonneg (by omega) (by omega)
      rw [tB_cons]; split
      · split
        · simp only [NFl]; omega
        · rw [hone]; omega
      · rw [NFl]; omega
    by_cases hlt : (c.toNat : Int) < d.toNat
    · have hd48 : d ≠ 48 := by
        intro e
        have : d.toNat = 48 := by rw [e]; rfl
        omega
      have high : (d.toNat : Int) * ((256 ^ n : Nat) : Int) ≤ NFl (tB (d :: s)) (n + 1) := by
        rw [tB_cons, if_neg hd48]; split
        · rw [hone]; omega
        · rw [NFl]; omega
      have := mul_step (B := ((256 ^ n : Nat) : Int)) (x := NFl (tB r) n) (y := 0) (a := (c.toNat : Int)) (b := (d.toNat : Int)) (by omega) b1.2 (by omega) (by omega)
      omega
    · have e : (c.toNat : Int) = d.toNat := by omega
      rw [e] at h
      have ih := NFl_mono r s n h1.2 h2.2 hl (by simpa using hn) (by omega)
      have hne : tB s ≠ [] := by
        intro e2; rw [e2] at ih; simp only [NFl] at ih; omega
      rw [tB_cons d s, if_neg hne, NFl]
      rw [e] at low
      omega

/-- Digits of a whole number. -/
theorem dd_dig (u : Nat) : (Lib.decDigits u).all isDig = true := by
  induction u using Nat.strongRecOn with
  | _ u ih =>
    rw [Lib.decDigits]
    have key : ∀ k, k < 10 → isDig (UInt8.ofNat (48 + k)) = true := fun k hk => by
      rw [dig_int, UInt8.toNat_ofNat']; omega
    split
    · rename_i h; simp only [List.all_cons, List.all_nil, Bool.and_true]; exact key u h
    · rename_i h
      rw [List.all_append, ih (u / 10) (by omega), Bool.true_and]
      simp only [List.all_cons, List.all_nil, Bool.and_true]; exact key _ (by omega)
theorem dd_val (u : Nat) : valD (Lib.decDigits u) = u := by
  induction u using Nat.strongRecOn with
  | _ u ih =>
    rw [Lib.decDigits]
    have key : ∀ k, k < 10 → ((UInt8.ofNat (48 + k)).toNat : Int) - 48 = k := fun k hk => by
      rw [UInt8.toNat_ofNat']; omega
    split
    · rename_i h
      show (0 : Int) * 10 + (((UInt8.ofNat (48 + u)).toNat : Int) - 48) = u
      rw [key u h]; omega
    · rename_i h
      rw [valD_snoc, ih (u / 10) (by omega), key _ (by omega)]
      omega
theorem dd_len (u : Nat) : (Lib.decDigits u).length = if u < 10 then 1 else (Lib.decDigits (u / 10)).length + 1 := by
  conv => lhs; rw [Lib.decDigits]
  split <;> simp
theorem dd_mono (u : Nat) : ∀ v, u ≤ v → (Lib.decDigits u).length ≤ (Lib.decDigits v).length := by
  induction u using Nat.strongRecOn with
  | _ u ih =>
    intro v hv
    rw [dd_len u, dd_len v]
    split
    · split <;> omega
    · rename_i h
      rw [if_neg (by omega)]
      have := ih (u / 10) (by omega) (v / 10) (by omega)
      omega
theorem dd_head (u : Nat) (h : 1 ≤ u) : ∃ c r, Lib.decDigits u = c :: r ∧ c ≠ 48 := by
  induction u using Nat.strongRecOn with
  | _ u ih =>
    rw [Lib.decDigits]
    split
    · rename_i h10
      refine ⟨_, [], rfl, ?_⟩
      intro e
      have := congrArg UInt8.toNat e
      rw [UInt8.toNat_ofNat'] at this
      have h48 : (48 : UInt8).toNat = 48 := rfl
      omega
    · rename_i h10
      obtain ⟨c, r, e, hc⟩ := ih (u / 10) (by omega) (by omega)
      exact ⟨c, r ++ [UInt8.ofNat (48 + u % 10)], by rw [e]; rfl, hc⟩
theorem tB_ne {c : UInt8} {r : L8} (h : c ≠ 48) : tB (c :: r) ≠ [] := by
  rw [tB_cons, if_neg h]; split <;> simp
theorem wnV_zero : wnV 0 = ⟨false, [], 0⟩ := by
  unfold wnV natD
  rw [show (0 : Int).natAbs = 0 from rfl, Lib.decDigits]
  rfl
theorem wnV_eq (n : Int) (h : n ≠ 0) : wnV n = ⟨decide (n < 0), tB (natD n), (natD n).length⟩ ∧ tB (natD n) ≠ [] := by
  unfold wnV trimV natD
  obtain ⟨c, r, e, hc⟩ := dd_head n.natAbs (by omega)
  have et : tF (Lib.decDigits n.natAbs) = Lib.decDigits n.natAbs := by rw [e, tF, if_neg hc]
  have hb := tB_ne (r := r) hc
  rw [← e] at hb
  simp only [et]
  rw [if_neg hb]
  refine ⟨?_, hb⟩
  congr 1
  omega
theorem side_w (n : Int) : sideV (wnV n) = sgn n := by
  by_cases h : n = 0
  · subst h; rw [wnV_zero]; rfl
  · obtain ⟨e, hb⟩ := wnV_eq n h
    rw [e]; unfold sideV sgn
    simp only
    rw [if_neg hb]
    by_cases h1 : n < 0
    · rw [if_pos h1, if_pos (by simpa using h1)]
    · rw [if_neg h1, if_neg (by simpa using h1), if_pos (by omega)]
theorem key_abs (n : Int) (h : n ≠ 0) : keyV (wnV n) = ((natD n).length : Int) * 1461501637330902918203684832716283019655932542976 + NFl (tB (natD n)) 20 := by
  rw [(wnV_eq n h).1]; rfl
theorem key_mono (a b : Int) (ha : a ≠ 0) (hb : b ≠ 0) (hl : (natD b).length ≤ 20) (h : a.natAbs < b.natAbs) : keyV (wnV a) < keyV (wnV b) := by
  rw [key_abs a ha, key_abs b hb]
  have h1 := NFl_20 (tB (natD a)); have h2 := NFl_20 (tB (natD b))
  have hm : (natD a).length ≤ (natD b).length := dd_mono _ _ (by omega)
  rcases Nat.lt_or_ge (natD a).length (natD b).length with hlt | hge
  · omega
  · have e : (natD a).length = (natD b).length := by omega
    have := NFl_mono (natD a) (natD b) 20 (dd_dig _) (dd_dig _) e hl (by unfold natD; rw [dd_val, dd_val]; omega)
    rw [e]; omega
theorem key_same (a b : Int) (h : a.natAbs = b.natAbs) (ha : a ≠ 0) : keyV (wnV a) = keyV (wnV b) := by
  rw [key_abs a ha, key_abs b (by omega)]
  unfold natD; rw [h]
theorem natD_len20 (n : Int) (h0 : -9223372036854775808 ≤ n) (h1 : n ≤ 9223372036854775807) : (natD n).length ≤ 20 := by
  have h := dd_mono n.natAbs 9223372036854775808 (by omega)
  have e : (Lib.decDigits 9223372036854775808).length ≤ 20 := by
    have : (Lib.itoa (-9223372036854775808)).length ≤ 21 := Lib.itoa_length_le _ (by omega) (by omega)
    rw [itoa_neg' (by omega)] at this
    simpa [natD] using this
  unfold natD; omega
theorem cmpVV_sgn (a b : NV) : cmpVV a b = if sideV a < sideV b then -1 else if sideV b < sideV a then 1 else sideV a * sgn (keyV a - keyV b) := by
  unfold cmpVV; rw [sizeV_sgn]
/-- A value goes down as the whole numbers go up. -/
theorem cmp_down (v : NV) (a b : Int) (h : a < b) (a0 : -9223372036854775808 ≤ a) (b1 : b ≤ 9223372036854775807) :
    cmpVV v (wnV b) ≤ cmpVV v (wnV a) ∧ ¬ (cmpVV v (wnV a) = 0 ∧ cmpVV v (wnV b) = 0) := by
  rw [cmpVV_sgn, cmpVV_sgn, side_w, side_w]
  have hs := sideV_bd v
  have la := natD_len20 a a0 (by omega); have lb := natD_len20 b (by omega) b1
  generalize hka : keyV (wnV a) = A
  generalize hkb : keyV (wnV b) = B
  have hpos : 0 < a → A < B := fun h0 => by
    rw [← hka, ← hkb]; exact key_mono a b (by omega) (by omega) lb (by omega)
  have hneg : b < 0 → B < A := fun h0 => by
    rw [← hka, ← hkb]; exact key_mono b a (by omega) (by omega) la (by omega)
  clear hka hkb
  generalize keyV v = K
  generalize sideV v = S at *
  have ea : sgn a = -1 ∧ a < 0 ∨ sgn a = 0 ∧ a = 0 ∨ sgn a = 1 ∧ 0 < a := by have := sgn_c (K - A); have := sgn_c (K - B); have := sgn_c a; have := sgn_c b; omega
  have eb : sgn b = -1 ∧ b < 0 ∨ sgn b = 0 ∧ b = 0 ∨ sgn b = 1 ∧ 0 < b := by have := sgn_c (K - A); have := sgn_c (K - B); have := sgn_c a; have := sgn_c b; omega
  have ka : sgn (K - A) = -1 ∧ K < A ∨ sgn (K - A) = 0 ∧ K = A ∨ sgn (K - A) = 1 ∧ A < K := by have := sgn_c (K - A); have := sgn_c (K - B); have := sgn_c a; have := sgn_c b; omega
  have kb : sgn (K - B) = -1 ∧ K < B ∨ sgn (K - B) = 0 ∧ K = B ∨ sgn (K - B) = 1 ∧ B < K := by have := sgn_c (K - A); have := sgn_c (K - B); have := sgn_c a; have := sgn_c b; omega
  generalize sgn (K - A) = x at *
  generalize sgn (K - B) = y at *
  generalize sgn a = p at *
  generalize sgn b = q at *
  rcases hs with rfl | rfl | rfl <;> rcases ea with ⟨rfl, e1⟩ | ⟨rfl, e1⟩ | ⟨rfl, e1⟩ <;> rcases eb with ⟨rfl, e2⟩ | ⟨rfl, e2⟩ | ⟨rfl, e2⟩ <;> simp <;> omega

end Go.Proofs.YtdfamphnilelnaaDoor
