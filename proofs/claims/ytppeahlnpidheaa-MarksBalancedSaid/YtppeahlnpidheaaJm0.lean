/- The marks of a list of bytes: plain definitions. -/
import Derived.Test.YtppeahlnpidheaaRows
namespace Go.Proofs.Ytppeahlnpidheaa

def isMark (c : Int) : Bool := c == 91 || c == 93 || c == 123 || c == 125 || c == 58 || c == 44

/-- The marks from a place on: state 0: outside of strings; 1: in a string; 2: behind a 5c in a string. -/
def mk : Nat → List UInt8 → Nat → List (Nat × UInt8)
  | _, [], _ => []
  | st, c :: r, p =>
    if st = 2 then mk 1 r (p + 1)
    else if st = 1 then (if c = 92 then mk 2 r (p + 1) else if c = 34 then mk 0 r (p + 1) else mk 1 r (p + 1))
    else if c = 34 then mk 1 r (p + 1) else if isMark c.toNat then (p, c) :: mk 0 r (p + 1) else mk 0 r (p + 1)

theorem mk_nil (st p : Nat) : mk st [] p = [] := by cases st <;> rfl
theorem mk_len (st : Nat) (l : List UInt8) (p : Nat) : (mk st l p).length ≤ l.length := by
  induction l generalizing st p with
  | nil => rw [mk_nil]; simp
  | cons c r ih =>
    rw [mk]
    have h0 := ih 0 (p + 1); have h1 := ih 1 (p + 1); have h2 := ih 2 (p + 1)
    simp only [List.length_cons]
    repeat' split
    all_goals first | omega | (simp only [List.length_cons]; omega)
theorem mk_in_back (r : List UInt8) (p : Nat) : mk 1 (92 :: r) p = mk 1 (r.drop 1) (p + 2) := by
  cases r with
  | nil => simp [mk]
  | cons d r => simp [mk]
theorem mk_in_quote (r : List UInt8) (p : Nat) : mk 1 (34 :: r) p = mk 0 r (p + 1) := by simp [mk]
theorem mk_in_other (c : UInt8) (r : List UInt8) (p : Nat) (h : c ≠ 92) (h' : c ≠ 34) : mk 1 (c :: r) p = mk 1 r (p + 1) := by simp [mk, h, h']
theorem mk_out_quote (r : List UInt8) (p : Nat) : mk 0 (34 :: r) p = mk 1 r (p + 1) := by simp [mk]
theorem mk_out_mark (c : UInt8) (r : List UInt8) (p : Nat) (h : isMark c.toNat = true) : mk 0 (c :: r) p = (p, c) :: mk 0 r (p + 1) := by
  have h' : c ≠ 34 := by rintro rfl; simp [isMark] at h
  simp [mk, h, h']
theorem mk_out_other (c : UInt8) (r : List UInt8) (p : Nat) (h : isMark c.toNat = false) (h' : c ≠ 34) : mk 0 (c :: r) p = mk 0 r (p + 1) := by simp [mk, h, h']

end Go.Proofs.Ytppeahlnpidheaa
