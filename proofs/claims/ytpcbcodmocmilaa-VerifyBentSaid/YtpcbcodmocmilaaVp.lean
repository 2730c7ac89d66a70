/- verify: sound code, on lists: plain (for the seat of laceworklaw20; no word of a dump in it). -/
import Derived.Test.YtpcbcodmocmilaaG04
namespace Go.Proofs.Ytpcbcodmocmilaa

structure PathD where
  abs : Bool
  fr : Int
  tt : Int
structure SegD where
  deep : Bool
  fr : Int
  tt : Int
structure SelD where
  kind : Int
  nm : ByteArray
  a : Int
  b : Int
  c : Int
  ha : Bool
  hb : Bool
  at_ : Int
structure InsD where
  op : Int
  p : Int
  sign : Int
  kind : Int
  n : Int
  s : ByteArray
  tt : Int
structure CodeD where
  ps : List PathD
  gs : List SegD
  ss : List SelD
  is : List InsD

def inR (fr tt : Int) (n : Nat) : Bool := decide (0 ≤ fr) && decide (fr ≤ tt) && decide (tt ≤ (n : Int))
def sub {α : Type} (l : List α) (fr tt : Int) : List α := (l.drop fr.toNat).take (tt.toNat - fr.toNat)
def segOK (c : CodeD) (s : SegD) : Bool := inR s.fr s.tt c.ss.length && decide (s.fr < s.tt)
def pathOK (c : CodeD) (x : PathD) : Bool := inR x.fr x.tt c.gs.length && (sub c.gs x.fr x.tt).all (segOK c)
def getP (c : CodeD) (p : Int) : Option PathD := if p < 0 then none else c.ps[p.toNat]?
def thereOK (c : CodeD) (p : Int) : Bool := match getP c p with | some x => pathOK c x | none => false
def sglSeg (c : CodeD) (s : SegD) : Bool :=
  !s.deep && decide (s.tt = s.fr + 1) && (match c.ss[s.fr.toNat]? with | some y => y.kind == 0 || y.kind == 2 | none => false)
def singleOK (c : CodeD) (p : Int) : Bool := match getP c p with | some x => pathOK c x && (sub c.gs x.fr x.tt).all (sglSeg c) | none => false
/-- How much higher the stack is behind an instruction; none: it is not as it should be. -/
def insI (c : CodeD) (x : InsD) (p k last h : Int) : Option Int :=
  if x.op < 0 ∨ 5 < x.op then none
  else if x.op = 0 ∨ x.op = 1 then
    (if p < x.p ∧ x.p < (c.ps.length : Int) ∧ (x.op = 1 → 0 ≤ x.sign ∧ x.sign ≤ 5 ∧ 0 ≤ x.kind ∧ x.kind ≤ 3 ∧ singleOK c x.p = true) then some 1 else none)
  else if x.op = 3 ∨ x.op = 4 then (if 1 ≤ h ∧ k < x.tt ∧ x.tt ≤ last then some (-1) else none)
  else if x.op = 2 then (if 1 ≤ h then some 0 else none)
  else some 0
def meetL (hs : List Int) (i : Nat) (h : Int) : Option (List Int) := if hs.getD i 0 = -1 ∨ hs.getD i 0 = h then some (hs.set i h) else none
def stepL (c : CodeD) (x : InsD) (p : Int) (a k last : Nat) (hs : List Int) : Option (List Int) :=
  match insI c x p k last (hs.getD (k - a) 0) with
  | none => none
  | some d => (if d < 0 then meetL hs (x.tt.toNat - a) (hs.getD (k - a) 0) else some hs).bind fun h2 => meetL h2 (k + 1 - a) (hs.getD (k - a) 0 + d)
def runL (c : CodeD) (p : Int) (a last : Nat) : List InsD → Nat → List Int → Option (List Int)
  | [], _, hs => some hs
  | x :: r, k, hs => (stepL c x p a k last hs).bind fun h2 => runL c p a last r (k + 1) h2
/-- Is a filter's code as it should be? -/
def filterOK (c : CodeD) (p at_ : Int) : Bool :=
  if at_ < 0 then false
  else match (c.is.drop at_.toNat).findIdx? (fun x => x.op == 5) with
    | none => false
    | some n => match runL c p at_.toNat (at_.toNat + n) ((c.is.drop at_.toNat).take n) at_.toNat (0 :: List.replicate n (-1)) with
      | none => false
      | some hs => decide (hs.getD n 0 = 1)
def kindOK (y : SelD) : Bool := decide (0 ≤ y.kind) && decide (y.kind ≤ 4)
def selsOK (c : CodeD) (i : Nat) (x : PathD) : Bool :=
  (sub c.gs x.fr x.tt).all fun s => (sub c.ss s.fr s.tt).all fun y => y.kind != 4 || filterOK c i y.at_
def pathsFrom (c : CodeD) : Nat → List PathD → Bool
  | _, [] => true
  | i, x :: r => selsOK c i x && pathsFrom c (i + 1) r
def soundL (c : CodeD) : Bool := decide (0 < c.ps.length) && c.ps.all (pathOK c) && c.gs.all (segOK c) && c.ss.all kindOK && pathsFrom c 0 c.ps

def withIs (c : CodeD) (r : List InsD) : CodeD := ⟨c.ps, c.gs, c.ss, r⟩
theorem insI_is (c : CodeD) (r : List InsD) (x : InsD) (p k last h : Int) : insI (withIs c r) x p k last h = insI c x p k last h := rfl
end Go.Proofs.Ytpcbcodmocmilaa
