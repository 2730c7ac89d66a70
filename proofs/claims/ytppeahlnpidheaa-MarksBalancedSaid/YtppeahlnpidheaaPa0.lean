/- The JSON grammar on lists of bytes, as the reference goes through it: plain. -/
import Derived.Test.YtppeahlnpidheaaKf
namespace Go.Proofs.Ytppeahlnpidheaa

def hd (l : List UInt8) (c : UInt8) : Bool := match l with | x :: _ => x == c | [] => false
def isDig (c : UInt8) : Bool := decide (48 ≤ c.toNat) && decide (c.toNat ≤ 57)
def digN : List UInt8 → Nat
  | [] => 0
  | c :: r => if isDig c then digN r + 1 else 0
def wordL (w l : List UInt8) : Option Nat := if l.take w.length = w then some w.length else none
def num6 (l : List UInt8) : Option Nat := if digN l = 0 then none else some (digN l)
def num5 (l : List UInt8) : Option Nat := if hd l 43 || hd l 45 then (num6 (l.drop 1)).map (· + 1) else num6 l
def num4 (l : List UInt8) : Option Nat := if hd l 101 || hd l 69 then (num5 (l.drop 1)).map (· + 1) else some 0
def num3 (l : List UInt8) : Option Nat :=
  if hd l 46 then (if digN (l.drop 1) = 0 then none else (num4 (l.drop (digN (l.drop 1) + 1))).map (· + (digN (l.drop 1) + 1))) else num4 l
def num2 (l : List UInt8) : Option Nat :=
  if digN l = 0 then none else if hd l 48 then (num3 (l.drop 1)).map (· + 1) else (num3 (l.drop (digN l))).map (· + digN l)
/-- A number. -/
def numL (l : List UInt8) : Option Nat := if hd l 45 then (num2 (l.drop 1)).map (· + 1) else num2 l

mutual
/-- A value behind blanks: how many bytes, how deep. -/
def valL : Nat → List UInt8 → Option (Nat × Nat)
  | 0, _ => none
  | f + 1, l =>
    match l.drop (blN l) with
    | [] => none
    | c :: r =>
      if c = 110 then (wordL [110, 117, 108, 108] (c :: r)).map (fun n => (blN l + n, 0))
      else if c = 116 then (wordL [116, 114, 117, 101] (c :: r)).map (fun n => (blN l + n, 0))
      else if c = 102 then (wordL [102, 97, 108, 115, 101] (c :: r)).map (fun n => (blN l + n, 0))
      else if c = 34 then (strL (c :: r)).map (fun n => (blN l + n, 0))
      else if c = 91 then (manyL f 93 r).map (fun x => (blN l + 1 + x.1, x.2))
      else if c = 123 then (manyL f 125 r).map (fun x => (blN l + 1 + x.1, x.2))
      else (numL (c :: r)).map (fun n => (blN l + n, 0))
/-- An array, or an object, behind its first bracket. -/
def manyL : Nat → UInt8 → List UInt8 → Option (Nat × Nat)
  | 0, _, _ => none
  | f + 1, z, l => if hd (l.drop (blN l)) z then some (blN l + 1, 1) else (itemsL f z (l.drop (blN l)) 0).map (fun x => (blN l + x.1, x.2))
/-- Its items, from one on; d: how deep those ahead are. -/
def itemsL : Nat → UInt8 → List UInt8 → Nat → Option (Nat × Nat)
  | 0, _, _, _ => none
  | f + 1, z, l, d =>
    match itemL f z l with
    | none => none
    | some (n, e) =>
      match (l.drop n).drop (blN (l.drop n)) with
      | [] => none
      | c :: r => if c = z then some (n + blN (l.drop n) + 1, max d e + 1)
        else if c = 44 then (itemsL f z r (max d e)).map (fun x => (n + blN (l.drop n) + 1 + x.1, x.2))
        else none
/-- A value, or a member. -/
def itemL : Nat → UInt8 → List UInt8 → Option (Nat × Nat)
  | 0, _, _ => none
  | f + 1, z, l =>
    if z = 93 then valL f l else
    match strL (l.drop (blN l)) with
    | none => none
    | some k =>
      if hd (l.drop (blN l + k + blN (l.drop (blN l + k)))) 58 then
        (valL f (l.drop (blN l + k + blN (l.drop (blN l + k)) + 1))).map (fun x => (blN l + k + blN (l.drop (blN l + k)) + 1 + x.1, x.2))
      else none
end
/-- A JSON text: how deep it nests. -/
def textL (l : List UInt8) : Option Nat :=
  match valL (4 * l.length + 8) l with
  | none => none
  | some (n, d) => if n + blN (l.drop n) = l.length then some d else none

end Go.Proofs.Ytppeahlnpidheaa
