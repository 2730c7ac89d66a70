/- Plain: noughts more, and an exponent that takes them back. -/
import Derived.Test.YtdfamphnilelnaaDoorDu
namespace Go.Proofs.YtdfamphnilelnaaDoor
open Go.RowKit

/-- An exponent's digits below the cut. -/
theorem foldE_val : ∀ (l : L8) (n : Int), l.all isDig = true → 0 ≤ n → n * ((10 ^ l.length : Nat) : Int) + valD l ≤ 1000 → foldE far n l = n * ((10 ^ l.length : Nat) : Int) + valD l
  | [], n, _, _, _ => by simp [foldE, valD]
  | c :: r, n, h, hn, hb => by
    simp only [List.all_cons, Bool.and_eq_true] at h
    have hc := dig_bd h.1
    have hv := valD_bd r h.2
    have hp := ten_pos r.length
    have e : n * ((10 ^ (c :: r).length : Nat) : Int) + valD (c :: r) = (n * 10 + ((c.toNat : Int) - 48)) * ((10 ^ r.length : Nat) : Int) + valD r := by
      rw [valD_cons, List.length_cons, Nat.pow_succ, Int.add_mul]
      have : ((10 ^ r.length * 10 : Nat) : Int) = 10 * ((10 ^ r.length : Nat) : Int) := by omega
      rw [this, Int.mul_assoc]; omega
    rw [e] at hb ⊢
    have hd : ((c.toNat : Int) - 48) % 256 = (c.toNat : Int) - 48 := by omega
    have hm : 0 ≤ n * 10 + ((c.toNat : Int) - 48) := by omega
    have hle : (n * 10 + ((c.toNat : Int) - 48)) * 1 ≤ (n * 10 + ((c.toNat : Int) - 48)) * ((10 ^ r.length : Nat) : Int) := Int.mul_le_mul_of_nonneg_left hp hm
    have hfar : far = 1099511627776 := rfl
    rw [foldE, hd, if_neg (by omega)]
    exact foldE_val r _ h.2 hm hb
theorem natD_nat (k : Nat) : natD (k : Int) = Lib.decDigits k := by unfold natD; rw [Int.natAbs_natCast]
theorem foldE_nat (k : Nat) (hk : k ≤ 255) : foldE far 0 (natD (k : Int)) = k := by
  have h := foldE_val (natD (k : Int)) 0 (dd_dig _) (by omega) (by rw [natD_nat, dd_val]; omega)
  rw [h, natD_nat, dd_val]; omega
theorem hd_dig (l : L8) (h : l.all isDig = true) (c : UInt8) (hc : c = 43 ∨ c = 45) : hd l c = false := by
  cases l with
  | nil => rfl
  | cons x r =>
    simp only [List.all_cons, Bool.and_eq_true] at h
    have := dig_bd h.1
    show (x == c) = false
    rw [beq_eq_false_iff_ne]; intro e; rw [e] at this
    have h43 : (43 : UInt8).toNat = 43 := rfl
    have h45 : (45 : UInt8).toNat = 45 := rfl
    rcases hc with rfl | rfl <;> omega
theorem strip_dig (l : L8) (h : l.all isDig = true) : strip l = l := by
  unfold strip; rw [hd_dig l h 45 (.inr rfl), hd_dig l h 43 (.inl rfl)]; rfl
theorem strip_sign (l : L8) (c : UInt8) (hc : c = 43 ∨ c = 45) : strip (c :: l) = l := by
  unfold strip; rcases hc with rfl | rfl <;> rfl
theorem pow_nat (k : Nat) (hk : k ≤ 255) : powI (natD (k : Int)) = k ∧ powI (43 :: natD (k : Int)) = k ∧ powI (45 :: natD (k : Int)) = -(k : Int) := by
  obtain ⟨a, b, c⟩ := natD_ok (k : Int)
  have e := foldE_nat k hk
  refine ⟨?_, ?_, ?_⟩
  · have h := powI_eq (natD (k : Int))
    rw [hd_dig _ a 45 (.inr rfl), hd_dig _ a 43 (.inl rfl)] at h
    exact h.trans e
  · exact (powI_eq (43 :: natD (k : Int))).trans e
  · have h3 : powI (45 :: natD (k : Int)) = -(foldE far 0 (natD (k : Int))) := powI_eq _
    rw [h3, e]
theorem zeros_dig (k : Nat) : (List.replicate k (48 : UInt8)).all isDig = true := by
  rw [List.all_eq_true]; intro c hc; rw [List.mem_replicate] at hc; rw [hc.2]; rfl
/-- A text of digits, with whatever exponent stands behind. -/
theorem read_dig (D : L8) (hD : D.all isDig = true) (h48 : hd D 48 = false) (h0 : D ≠ []) : ∃ x, splitL D = some x ∧ readV x = trimV ⟨false, D, D.length⟩ := by
  have h := split_num false D [] hD (.inr h48) h0 rfl
  rw [spl3_nil] at h
  simp only [Bool.false_eq_true, if_false, List.append_nil] at h
  refine ⟨_, h, ?_⟩
  unfold readV
  simp only [powI_nil, List.append_nil, Int.add_zero]
theorem read_exp (D e : L8) (c : UInt8) (hc : c = 101 ∨ c = 69) (hD : D.all isDig = true) (h48 : hd D 48 = false) (h0 : D ≠ []) (he : (strip e).all isDig = true) (hne : strip e ≠ []) :
    ∃ x, splitL (D ++ c :: e) = some x ∧ readV x = trimV ⟨false, D, D.length + powI e⟩ := by
  have hr : digN (c :: e) = 0 := by rcases hc with rfl | rfl <;> rfl
  have h := split_num false D (c :: e) hD (.inr h48) h0 hr
  rw [spl3_e _ _ _ _ hc he hne] at h
  simp only [Bool.false_eq_true, if_false] at h
  refine ⟨_, h, ?_⟩
  unfold readV
  simp only [List.append_nil]
theorem moves_plain (s : L8) (k : Nat) (n : Int) (hk : k ≤ 255) (hs : s.all isDig = true) (h48 : hd s 48 = false) (h0 : s ≠ []) :
    cmpL ((s ++ List.replicate k 48) ++ 101 :: 45 :: natD (k : Int)) n = cmpL s n ∧ wholeL ((s ++ List.replicate k 48) ++ 101 :: 45 :: natD (k : Int)) = wholeL s ∧
    cmpL (s ++ 69 :: 43 :: natD (k : Int)) n = cmpL (s ++ List.replicate k 48) n ∧ cmpL (s ++ 101 :: natD (k : Int)) n = cmpL (s ++ List.replicate k 48) n := by
  obtain ⟨a, b, c⟩ := natD_ok (k : Int)
  obtain ⟨q1, q2, q3⟩ := pow_nat k hk
  have ht : (s ++ List.replicate k 48).all isDig = true := by rw [List.all_append, hs, zeros_dig]; rfl
  have ht48 : hd (s ++ List.replicate k 48) 48 = false := by cases s with | nil => exact absurd rfl h0 | cons => exact h48
  have ht0 : s ++ List.replicate k 48 ≠ [] := by cases s with | nil => exact absurd rfl h0 | cons => simp
  obtain ⟨x1, e1, r1⟩ := read_dig s hs h48 h0
  obtain ⟨x2, e2, r2⟩ := read_dig _ ht ht48 ht0
  obtain ⟨x3, e3, r3⟩ := read_exp (s ++ List.replicate k 48) (45 :: natD (k : Int)) 101 (.inl rfl) ht ht48 ht0 (by rw [strip_sign _ _ (.inr rfl)]; exact a) (by rw [strip_sign _ _ (.inr rfl)]; exact c)
  obtain ⟨x4, e4, r4⟩ := read_exp s (43 :: natD (k : Int)) 69 (.inr rfl) hs h48 h0 (by rw [strip_sign _ _ (.inl rfl)]; exact a) (by rw [strip_sign _ _ (.inl rfl)]; exact c)
  obtain ⟨x5, e5, r5⟩ := read_exp s (natD (k : Int)) 101 (.inl rfl) hs h48 h0 (by rw [strip_dig _ a]; exact a) (by rw [strip_dig _ a]; exact c)
  rw [trim_zeros] at r2 r3
  rw [q3, List.length_append, List.length_replicate] at r3
  rw [List.length_append, List.length_replicate] at r2
  rw [q2] at r4
  rw [q1] at r5
  have h31 : readV x3 = readV x1 := by rw [r3, r1]; congr 2; omega
  have h42 : readV x4 = readV x2 := by rw [r4, r2]; congr 2
  have h52 : readV x5 = readV x2 := by rw [r5, r2]; congr 2
  unfold cmpL wholeL
  simp only [e1, e2, e3, e4, e5, h31, h42, h52]
  exact ⟨trivial, trivial, trivial, trivial⟩

end Go.Proofs.YtdfamphnilelnaaDoor
