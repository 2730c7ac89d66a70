/- ref13: which bytes stand in a string: plain. -/
import Derived.Test.YtppeahlnpidheaaJm0
namespace Go.Proofs.Ytppeahlnpidheaa

def ins : Nat → List UInt8 → List Bool
  | _, [] => []
  | st, c :: r =>
    if st = 2 then true :: ins 1 r
    else if st = 1 then (if c = 92 then true :: ins 2 r else if c = 34 then true :: ins 0 r else true :: ins 1 r)
    else if c = 34 then true :: ins 1 r else false :: ins 0 r

theorem ins_nil (st : Nat) : ins st [] = [] := by cases st <;> rfl
theorem ins_len (st : Nat) (l : List UInt8) : (ins st l).length = l.length := by
  induction l generalizing st with
  | nil => rw [ins_nil]; simp
  | cons c r ih => rw [ins]; repeat' split
                   all_goals simp [ih]
/-- The state of the bytes from a place on. -/
def St (l : List UInt8) (st k : Nat) : Prop := (ins 0 l).drop k = ins st (l.drop k)
theorem St.start (l : List UInt8) : St l 0 0 := rfl
theorem drop_step {α : Type} {l : List α} {k : Nat} {x : α} {r : List α} (h : l.drop k = x :: r) : l[k]? = some x ∧ l.drop (k + 1) = r := by
  constructor
  · have := List.getElem?_drop (xs := l) (i := k) (j := 0)
    rw [h] at this; simpa using this.symm
  · rw [← List.drop_drop, h]; rfl
theorem St.out_quote {l : List UInt8} {k : Nat} {r : List UInt8} (h : St l 0 k) (hl : l.drop k = 34 :: r) : (ins 0 l)[k]? = some true ∧ St l 1 (k + 1) := by
  unfold St at h; rw [hl] at h
  have e : ins 0 (34 :: r) = true :: ins 1 r := by simp [ins]
  obtain ⟨h1, h2⟩ := drop_step (h.trans e)
  exact ⟨h1, by unfold St; rw [h2, (drop_step hl).2]⟩
theorem St.out_other {l : List UInt8} {k : Nat} {c : UInt8} {r : List UInt8} (h : St l 0 k) (hl : l.drop k = c :: r) (hc : c ≠ 34) : (ins 0 l)[k]? = some false ∧ St l 0 (k + 1) := by
  unfold St at h; rw [hl] at h
  have e : ins 0 (c :: r) = false :: ins 0 r := by simp [ins, hc]
  obtain ⟨h1, h2⟩ := drop_step (h.trans e)
  exact ⟨h1, by unfold St; rw [h2, (drop_step hl).2]⟩
theorem St.in_quote {l : List UInt8} {k : Nat} {r : List UInt8} (h : St l 1 k) (hl : l.drop k = 34 :: r) : (ins 0 l)[k]? = some true ∧ St l 0 (k + 1) := by
  unfold St at h; rw [hl] at h
  have e : ins 1 (34 :: r) = true :: ins 0 r := by simp [ins]
  obtain ⟨h1, h2⟩ := drop_step (h.trans e)
  exact ⟨h1, by unfold St; rw [h2, (drop_step hl).2]⟩
theorem St.in_back {l : List UInt8} {k : Nat} {r : List UInt8} (h : St l 1 k) (hl : l.drop k = 92 :: r) : (ins 0 l)[k]? = some true ∧ St l 2 (k + 1) := by
  unfold St at h; rw [hl] at h
  have e : ins 1 (92 :: r) = true :: ins 2 r := by simp [ins]
  obtain ⟨h1, h2⟩ := drop_step (h.trans e)
  exact ⟨h1, by unfold St; rw [h2, (drop_step hl).2]⟩
theorem St.in_other {l : List UInt8} {k : Nat} {c : UInt8} {r : List UInt8} (h : St l 1 k) (hl : l.drop k = c :: r) (hc : c ≠ 34) (hc' : c ≠ 92) : (ins 0 l)[k]? = some true ∧ St l 1 (k + 1) := by
  unfold St at h; rw [hl] at h
  have e : ins 1 (c :: r) = true :: ins 1 r := by simp [ins, hc, hc']
  obtain ⟨h1, h2⟩ := drop_step (h.trans e)
  exact ⟨h1, by unfold St; rw [h2, (drop_step hl).2]⟩
theorem St.esc {l : List UInt8} {k : Nat} {c : UInt8} {r : List UInt8} (h : St l 2 k) (hl : l.drop k = c :: r) : (ins 0 l)[k]? = some true ∧ St l 1 (k + 1) := by
  unfold St at h; rw [hl] at h
  have e : ins 2 (c :: r) = true :: ins 1 r := by simp [ins]
  obtain ⟨h1, h2⟩ := drop_step (h.trans e)
  exact ⟨h1, by unfold St; rw [h2, (drop_step hl).2]⟩
theorem St.end_ {l : List UInt8} {st st' k : Nat} (h : St l st k) (hk : l.length ≤ k) : St l st' k := by
  unfold St at *; rw [List.drop_of_length_le hk, ins_nil] at *; exact h

/-- What the list out holds when k bytes have been gone through. -/
def insTo (l : List UInt8) (k : Nat) : List Bool := (ins 0 l).take k ++ List.replicate (l.length - k) false
theorem insTo_len (l : List UInt8) (k : Nat) : (insTo l k).length = l.length := by
  simp [insTo, ins_len]; omega
theorem insTo_zero (l : List UInt8) : insTo l 0 = List.replicate l.length false := by simp [insTo]
theorem insTo_end (l : List UInt8) (k : Nat) (h : l.length ≤ k) : insTo l k = ins 0 l := by
  unfold insTo
  rw [List.take_of_length_le (by rw [ins_len]; omega), show l.length - k = 0 by omega]; simp
theorem insTo_false {l : List UInt8} {k : Nat} (hk : k < l.length) (h : (ins 0 l)[k]? = some false) : insTo l (k + 1) = insTo l k := by
  have hk' : k < (ins 0 l).length := by rw [ins_len]; exact hk
  unfold insTo
  rw [List.take_succ_eq_append_getElem hk']
  have e : (ins 0 l)[k] = false := by rw [List.getElem?_eq_getElem hk'] at h; simpa using h
  rw [e, show l.length - k = (l.length - (k + 1)) + 1 by omega, List.replicate_succ]
  simp
theorem insTo_true {l : List UInt8} {k : Nat} (hk : k < l.length) (h : (ins 0 l)[k]? = some true) : (insTo l k).set k true = insTo l (k + 1) := by
  have hk' : k < (ins 0 l).length := by rw [ins_len]; exact hk
  have e : (ins 0 l)[k] = true := by rw [List.getElem?_eq_getElem hk'] at h; simpa using h
  have hl : ((ins 0 l).take k).length = k := by simp; omega
  unfold insTo
  rw [List.set_append_right _ _ (by omega), hl, Nat.sub_self, show l.length - k = (l.length - (k + 1)) + 1 by omega, List.replicate_succ, List.set_cons_zero, List.take_succ_eq_append_getElem hk', e]
  simp

/-- The marks out of the bytes and of what stands in strings. -/
def plR : List UInt8 → List Bool → Nat → List (Nat × UInt8)
  | c :: r, b :: bs, p => if !b && isMark c.toNat then (p, c) :: plR r bs (p + 1) else plR r bs (p + 1)
  | _, _, _ => []
theorem mk_eq_plR (st : Nat) (l : List UInt8) (p : Nat) : mk st l p = plR l (ins st l) p := by
  induction l generalizing st p with
  | nil => rw [mk_nil]; rfl
  | cons c r ih =>
    rw [mk, ins]
    repeat' split
    all_goals simp_all [plR]

end Go.Proofs.Ytppeahlnpidheaa
