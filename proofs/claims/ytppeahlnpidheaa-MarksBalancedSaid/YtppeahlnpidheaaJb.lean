/- Contracts of small loops. -/
import Derived.Test.YtppeahlnpidheaaJa
namespace Go.Proofs.Ytppeahlnpidheaa
open Go.RowKit

def isBl (c : UInt8) : Bool := c == 32 || c == 9 || c == 10 || c == 13
def blN : List UInt8 → Nat
  | [] => 0
  | c :: r => if isBl c then blN r + 1 else 0
theorem drop_cons (s : ByteArray) (k : Nat) (h : k < s.size) : s.data.toList.drop k = s[k] :: s.data.toList.drop (k + 1) := by
  rw [List.drop_eq_getElem_cons (by simpa using h)]; rfl
theorem drop_nil (s : ByteArray) (k : Nat) (h : s.size ≤ k) : s.data.toList.drop k = [] := by
  apply List.drop_of_length_le; simpa using h

theorem blN_step (s : ByteArray) (k : Nat) (h : k < s.size) :
    ((s[k].toNat : Int) = 32 ∨ (s[k].toNat : Int) = 9 ∨ (s[k].toNat : Int) = 10 ∨ (s[k].toNat : Int) = 13 → blN (s.data.toList.drop k) = blN (s.data.toList.drop (k + 1)) + 1) ∧
    (¬ (s[k].toNat : Int) = 32 → ¬ (s[k].toNat : Int) = 9 → ¬ (s[k].toNat : Int) = 10 → ¬ (s[k].toNat : Int) = 13 → blN (s.data.toList.drop k) = 0) := by
  rw [drop_cons s k h]
  generalize s[k] = c
  have e : isBl c = true ↔ ((c.toNat : Int) = 32 ∨ (c.toNat : Int) = 9 ∨ (c.toNat : Int) = 10 ∨ (c.toNat : Int) = 13) := by
    simp only [isBl, Bool.or_eq_true, beq_iff_eq, ← UInt8.toNat_inj]
    have h1 : (32 : UInt8).toNat = 32 := rfl
    have h2 : (9 : UInt8).toNat = 9 := rfl
    have h3 : (10 : UInt8).toNat = 10 := rfl
    have h4 : (13 : UInt8).toNat = 13 := rfl
    rw [h1, h2, h3, h4]; omega
  constructor
  · intro h'; rw [blN, if_pos (e.2 h')]
  · intro a b c d; rw [blN, if_neg (by rw [e]; omega)]

set_option maxHeartbeats 400000 in
theorem blanks_any (s : ByteArray) (a : Nat) (w : World) (hs : s.size ≤ maxLen) (ha : a ≤ s.size) :
    Calls Try.prog 26 #[.string s, .int .i64 a] w fun e w' => e = .returned (.int .i64 ((a + blN (s.data.toList.drop a) : Nat) : Int)) ∧ w = w' := by
  unfold maxLen at hs
  go_enter Try.func26, Try.ntmps26
  go_wp2
  go_loop [1] (fun i => ∃ k : Nat, k ≤ s.size ∧ i = .int .i64 k ∧ a + blN (s.data.toList.drop a) = k + blN (s.data.toList.drop k)) (fun i => s.size - (intOf i).toNat)
  case atStart => exact ⟨a, ha, rfl, rfl⟩
  case round =>
    obtain ⟨k, hk, rfl, hb⟩ := hrel
    have HB := Lib.hid hb; clear hb
    by_cases hlt : k < s.size
    · have HD := Lib.hid (drop_cons s k hlt)
      have HN := Lib.hid (blN_step s k hlt)
      go_wp2
      all_goals first
        | (go_round
           case rel => exact ⟨k + 1, by omega, by go_num, by rw [HB.out, HN.out.1 (by first | omega | (simp only [beq_iff_eq] at *; omega) | (simp only [beq_eq_false_iff_ne, ne_eq] at *; omega) | (simp only [bne_iff_ne, ne_eq] at *; omega) | (simp only [bne_eq_false_iff_eq] at *; omega))]; omega⟩
           case measure => simp [intOf]; omega)
        | (go_ret
           exact ⟨ret_int (by have h1 := HB.out; have h2 := HN.out.2 (by first | omega | (simp only [beq_iff_eq] at *; omega) | (simp only [beq_eq_false_iff_ne, ne_eq] at *; omega) | (simp only [bne_iff_ne, ne_eq] at *; omega) | (simp only [bne_eq_false_iff_eq] at *; omega)) (by first | omega | (simp only [beq_iff_eq] at *; omega) | (simp only [beq_eq_false_iff_ne, ne_eq] at *; omega) | (simp only [bne_iff_ne, ne_eq] at *; omega) | (simp only [bne_eq_false_iff_eq] at *; omega)) (by first | omega | (simp only [beq_iff_eq] at *; omega) | (simp only [beq_eq_false_iff_ne, ne_eq] at *; omega) | (simp only [bne_iff_ne, ne_eq] at *; omega) | (simp only [bne_eq_false_iff_eq] at *; omega)) (by first | omega | (simp only [beq_iff_eq] at *; omega) | (simp only [beq_eq_false_iff_ne, ne_eq] at *; omega) | (simp only [bne_iff_ne, ne_eq] at *; omega) | (simp only [bne_eq_false_iff_eq] at *; omega)); omega), rfl⟩)
    · go_wp2
      go_ret
      exact ⟨ret_int (by have h1 := HB.out; rw [drop_nil s k (by omega)] at h1; simp [blN] at h1; omega), rfl⟩

end Go.Proofs.Ytppeahlnpidheaa
