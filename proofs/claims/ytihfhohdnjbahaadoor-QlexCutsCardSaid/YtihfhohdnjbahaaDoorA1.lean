/- Bytes: heads, digits; plain. -/
import Derived.Test.YtihfhohdnjbahaaDoorA0
namespace Go.Proofs.YtihfhohdnjbahaaDoor

def hd (l : List UInt8) (c : UInt8) : Bool := match l with | x :: _ => x == c | [] => false
def isDig (c : UInt8) : Bool := decide (48 ≤ c.toNat) && decide (c.toNat ≤ 57)
def digN : List UInt8 → Nat
  | [] => 0
  | c :: r => if isDig c then digN r + 1 else 0
def dr (s : ByteArray) (a : Nat) : List UInt8 := s.data.toList.drop a
theorem dr_dr (s : ByteArray) (a k : Nat) : (dr s a).drop k = dr s (a + k) := by unfold dr; rw [List.drop_drop]
theorem hd_t {s : ByteArray} {p : Nat} {c : UInt8} (h : p < s.size) (e : (s[p].toNat : Int) = (c.toNat : Int)) : hd (dr s p) c = true := by
  rw [dr, drop_cons s p h, hd, beq_iff_eq, ← UInt8.toNat_inj]; omega
theorem hd_f {s : ByteArray} {p : Nat} {c : UInt8} (h : ∀ h : p < s.size, (s[p].toNat : Int) ≠ (c.toNat : Int)) : hd (dr s p) c = false := by
  by_cases hp : p < s.size
  · rw [dr, drop_cons s p hp, hd, beq_eq_false_iff_ne]; intro e; exact h hp (by rw [e])
  · rw [dr, drop_nil s p (by omega)]; rfl
theorem hd_lt {s : ByteArray} {p : Nat} {c : UInt8} (h : hd (dr s p) c = true) : p < s.size := by
  rcases Nat.lt_or_ge p s.size with h' | h'
  · exact h'
  · rw [dr, drop_nil s p h'] at h; cases h
theorem digN_le (l : List UInt8) : digN l ≤ l.length := by
  induction l with
  | nil => simp [digN]
  | cons c r ih => rw [digN]; split <;> simp <;> omega
theorem digN_bd (s : ByteArray) (a : Nat) (h : a ≤ s.size) : a + digN (dr s a) ≤ s.size := by
  have := digN_le (dr s a)
  rw [dr, List.length_drop, show s.data.toList.length = s.size by simp] at this
  unfold dr; omega

theorem hd_i {s : ByteArray} {p : Nat} {c : UInt8} (h : p < s.size) : hd (dr s p) c = ((s[p].toNat : Int) == (c.toNat : Int)) := by
  rw [dr, drop_cons s p h, hd, Bool.eq_iff_iff, beq_iff_eq, beq_iff_eq, ← UInt8.toNat_inj]; omega
theorem hd_o {s : ByteArray} {p : Nat} {c : UInt8} (h : s.size ≤ p) : hd (dr s p) c = false := by rw [dr, drop_nil s p h]; rfl
theorem hd_i' {s : ByteArray} {p : Nat} {c : UInt8} {n : Int} (h : p < s.size) (e : (c.toNat : Int) = n) : ((s[p].toNat : Int) == n) = hd (dr s p) c := by rw [hd_i h, e]
theorem hd_or_t {s : ByteArray} {p : Nat} {c d : UInt8} {n : Int} (h : p < s.size) (hn : (c.toNat : Int) = n) (e : ((s[p].toNat : Int) == n) = true) : true = (hd (dr s p) c || hd (dr s p) d) := by rw [← hd_i' h hn, e]; rfl
theorem hd_or_f {s : ByteArray} {p : Nat} {c d : UInt8} {n m : Int} (h : p < s.size) (hn : (c.toNat : Int) = n) (hm : (d.toNat : Int) = m) (e : ((s[p].toNat : Int) == n) = false) : ((s[p].toNat : Int) == m) = (hd (dr s p) c || hd (dr s p) d) := by rw [← hd_i' h hn, e, ← hd_i' h hm]; rfl
theorem hd_or_b {s : ByteArray} {p : Nat} {c d : UInt8} {n m : Int} (h : p < s.size) (hn : (c.toNat : Int) = n) (hm : (d.toNat : Int) = m) : ((s[p].toNat : Int) == n || (s[p].toNat : Int) == m) = (hd (dr s p) c || hd (dr s p) d) := by rw [← hd_i' h hn, ← hd_i' h hm]
theorem hd_or_o {s : ByteArray} {p : Nat} {c d : UInt8} (h : s.size ≤ p) : false = (hd (dr s p) c || hd (dr s p) d) := by rw [hd_o h, hd_o h]; rfl
theorem hd_lt2 {s : ByteArray} {p : Nat} {c d : UInt8} (h : (hd (dr s p) c || hd (dr s p) d) = true) : p < s.size := by
  rcases Bool.or_eq_true_iff.1 h with h | h <;> exact hd_lt h
theorem dig_hd {s : ByteArray} {p : Nat} (h : digN (dr s p) ≠ 0) : p < s.size := by
  rcases Nat.lt_or_ge p s.size with h' | h'
  · exact h'
  · exfalso; apply h; rw [dr, drop_nil s p h']; rfl

theorem hd_n' {s : ByteArray} {p : Nat} {c : UInt8} {n : Int} (h : p < s.size) (e : (c.toNat : Int) = n) : ((s[p].toNat : Int) != n) = !hd (dr s p) c := by rw [← hd_i' h e]; rfl
theorem hd_nb' {s : ByteArray} {p : Nat} {c : UInt8} {n : Int} (h : p < s.size) (e : (c.toNat : Int) = n) : (decide (s.size ≤ p) || ((s[p].toNat : Int) != n)) = !hd (dr s p) c := by rw [hd_n' h e, decide_eq_false (by omega)]; rfl
theorem hd_no {s : ByteArray} {p : Nat} {c : UInt8} (h : s.size ≤ p) : true = !hd (dr s p) c := by rw [hd_o h]; rfl

theorem dig_int (c : UInt8) : isDig c = true ↔ (48 ≤ (c.toNat : Int) ∧ (c.toNat : Int) ≤ 57) := by
  simp [isDig]; omega


theorem te_t {t : ByteArray} (h : t.size = 0) : t.toList.isEmpty = true := by
  rw [ByteArray.toList_eq]
  have : t.data.toList.length = 0 := by simpa using h
  rw [List.isEmpty_iff]; exact List.eq_nil_of_length_eq_zero this
theorem te_f {t : ByteArray} (h : 0 < t.size) : t.toList.isEmpty = false := by
  rw [ByteArray.toList_eq]
  have : 0 < t.data.toList.length := by simpa using h
  cases hl : t.data.toList with
  | nil => rw [hl] at this; simp at this
  | cons => rfl
theorem ne_nil {t : ByteArray} (h : 0 < t.size) : t.data.toList ≠ [] := by
  intro e; have := len_toList t; rw [e] at this; simp at this; omega
def bs (l : List UInt8) : ByteArray := ⟨l.toArray⟩
theorem bs_of {t : ByteArray} {l : List UInt8} (h : t.data.toList = l) : t = bs l := by
  subst h; apply ByteArray.ext; apply Array.toList_inj.1; simp [bs]
theorem bs_list (l : List UInt8) : (bs l).data.toList = l := by simp [bs]

end Go.Proofs.YtihfhohdnjbahaaDoor
