/- verify: sound code, on lists: plain (for the seat of laceworklaw20; no word of a dump in it). -/
import Derived.Test.YthlcbjjeklkmfaaA1
namespace Go.Proofs.Ythlcbjjeklkmfaa

structure PathD where
  abs : Bool
  fr : Int
  tt : Int
structure SegD where
  deep : Bool
  fr : Int
  tt : Int
structure SelD where
  kind : Int
  nm : ByteArray
  a : Int
  b : Int
  c : Int
  ha : Bool
  hb : Bool
  at_ : Int
structure InsD where
  op : Int
  p : Int
  sign : Int
  kind : Int
  n : Int
  s : ByteArray
  tt : Int
structure CodeD where
  ps : List PathD
  gs : List SegD
  ss : List SelD
  is : List InsD

def inR (fr tt : Int) (n : Nat) : Bool := decide (0 ≤ fr) && decide (fr ≤ tt) && decide (tt ≤ (n : Int))
def sub {α : Type} (l : List α) (fr tt : Int) : List α := (l.drop fr.toNat).take (tt.toNat - fr.toNat)
def segOK (c : CodeD) (s : SegD) : Bool := inR s.fr s.tt c.ss.length && decide (s.fr < s.tt)
def pathOK (c : CodeD) (x : PathD) : Bool := inR x.fr x.tt c.gs.length && (sub c.gs x.fr x.tt).all (segOK c)
def getP (c : CodeD) (p : Int) : Option PathD := if p < 0 then none else c.ps[p.toNat]?
def thereOK (c : CodeD) (p : Int) : Bool := match getP c p with | some x => pathOK c x | none => false
def sglSeg (c : CodeD) (s : SegD) : Bool :=
  !s.deep && decide (s.tt = s.fr + 1) && (match c.ss[s.fr.toNat]? with | some y => y.kind == 0 || y.kind == 2 | none => false)
def singleOK (c : CodeD) (p : Int) : Bool := match getP c p with | some x => pathOK c x && (sub c.gs x.fr x.tt).all (sglSeg c) | none => false
/-- How much higher the stack is behind an instruction; none: it is not as it should be. -/
def insI (c : CodeD) (x : InsD) (p k last h : Int) : Option Int :=
  if x.op < 0 ∨ 5 < x.op then none
  else if x.op = 0 ∨ x.op = 1 then
    (if p < x.p ∧ x.p < (c.ps.length : Int) ∧ (x.op = 1 → 0 ≤ x.sign ∧ x.sign ≤ 5 ∧ 0 ≤ x.kind ∧ x.kind ≤ 3 ∧ singleOK c x.p = true) then some 1 else none)
  else if x.op = 3 ∨ x.op = 4 then (if 1 ≤ h ∧ k < x.tt ∧ x.tt ≤ last then some (-1) else none)
  else if x.op = 2 then (if 1 ≤ h then some 0 else none)
  else some 0
def meetL (hs : List Int) (i : Nat) (h : Int) : Option (List Int) := if hs.getD i 0 = -1 ∨ hs.getD i 0 = h then some (hs.set i h) else none
def stepL (c : CodeD) (x : InsD) (p : Int) (a k last : Nat) (hs : List Int) : Option (List Int) :=
  match insI c x p k last (hs.getD (k - a) 0) with
  | none => none
  | some d => (if d < 0 then meetL hs (x.tt.toNat - a) (hs.getD (k - a) 0) else some hs).bind fun h2 => meetL h2 (k + 1 - a) (hs.getD (k - a) 0 + d)
def runL (c : CodeD) (p : Int) (a last : Nat) : List InsD → Nat → List Int → Option (List Int)
  | [], _, hs => some hs
  | x :: r, k, hs => (stepL c x p a k last hs).bind fun h2 => runL c p a last r (k + 1) h2
/-- Is a filter's code as it should be? -/
def filterOK (c : CodeD) (p at_ : Int) : Bool :=
  if at_ < 0 then false
  else match (c.is.drop at_.toNat).findIdx? (fun x => x.op == 5) with
    | none => false
    | some n => match runL c p at_.toNat (at_.toNat + n) ((c.is.drop at_.toNat).take n) at_.toNat (0 :: List.replicate n (-1)) with
      | none => false
      | some hs => decide (hs.getD n 0 = 1)
def kindOK (y : SelD) : Bool := decide (0 ≤ y.kind) && decide (y.kind ≤ 4)
def selsOK (c : CodeD) (i : Nat) (x : PathD) : Bool :=
  (sub c.gs x.fr x.tt).all fun s => (sub c.ss s.fr s.tt).all fun y => y.kind != 4 || filterOK c i y.at_
def pathsFrom (c : CodeD) : Nat → List PathD → Bool
  | _, [] => true
  | i, x :: r => selsOK c i x && pathsFrom c (i + 1) r
def soundL (c : CodeD) : Bool := decide (0 < c.ps.length) && c.ps.all (pathOK c) && c.gs.all (segOK c) && c.ss.all kindOK && pathsFrom c 0 c.ps

/-- More instructions behind change nothing. -/
theorem findIdx_app {α : Type} (f : α → Bool) : ∀ (l r : List α) (n : Nat), l.findIdx? f = some n → (l ++ r).findIdx? f = some n ∧ n < l.length
  | [], r, n, h => by simp at h
  | x :: l, r, n, h => by
    rw [List.findIdx?_cons] at h
    rw [List.cons_append, List.findIdx?_cons]
    cases hx : f x
    · rw [hx] at h
      simp only [Bool.false_eq_true, if_false] at h ⊢
      cases hi : l.findIdx? f with
      | none => rw [hi] at h; simp at h
      | some m =>
        rw [hi] at h
        simp at h
        obtain ⟨h1, h2⟩ := findIdx_app f l r m hi
        rw [h1]
        exact ⟨by simp [h], by simp; omega⟩
    · rw [hx] at h
      simp at h ⊢
      omega
def withIs (c : CodeD) (r : List InsD) : CodeD := ⟨c.ps, c.gs, c.ss, r⟩
theorem insI_is (c : CodeD) (r : List InsD) (x : InsD) (p k last h : Int) : insI (withIs c r) x p k last h = insI c x p k last h := rfl
theorem stepL_is (c : CodeD) (r : List InsD) (x : InsD) (p : Int) (a k last : Nat) (hs : List Int) : stepL (withIs c r) x p a k last hs = stepL c x p a k last hs := rfl
theorem runL_is (c : CodeD) (r : List InsD) (p : Int) (a last : Nat) : ∀ (l : List InsD) (k : Nat) (hs : List Int), runL (withIs c r) p a last l k hs = runL c p a last l k hs
  | [], _, _ => rfl
  | x :: l, k, hs => by
    rw [runL, runL, stepL_is]
    congr 1; funext h2; exact runL_is c r p a last l (k + 1) h2
theorem filter_app (c : CodeD) (r : List InsD) (p at_ : Int) (h : filterOK c p at_ = true) : filterOK (withIs c (c.is ++ r)) p at_ = true := by
  unfold filterOK at h ⊢
  by_cases h0 : at_ < 0
  · rw [if_pos h0] at h; cases h
  · rw [if_neg h0] at h ⊢
    cases hf : (c.is.drop at_.toNat).findIdx? (fun x => x.op == 5) with
    | none => rw [hf] at h; cases h
    | some n =>
      rw [hf] at h
      obtain ⟨h1, h2⟩ := findIdx_app (fun x : InsD => x.op == 5) _ r n hf
      have hl : at_.toNat ≤ c.is.length := by
        rcases Nat.lt_or_ge c.is.length at_.toNat with hlt | hge
        · rw [List.length_drop] at h2; omega
        · exact hge
      have hd : (c.is ++ r).drop at_.toNat = c.is.drop at_.toNat ++ r := by rw [List.drop_append_of_le_length hl]
      show (match ((c.is ++ r).drop at_.toNat).findIdx? (fun x => x.op == 5) with
        | none => false
        | some n => match runL (withIs c (c.is ++ r)) p at_.toNat (at_.toNat + n) (((c.is ++ r).drop at_.toNat).take n) at_.toNat (0 :: List.replicate n (-1)) with
          | none => false
          | some hs => decide (hs.getD n 0 = 1)) = true
      rw [hd, h1]
      simp only
      rw [runL_is, List.take_append_of_le_length (by omega)]
      exact h
theorem pathsFrom_mono (c d : CodeD) (hg : c.gs = d.gs) (hs : c.ss = d.ss) (hf : ∀ i a, filterOK c i a = true → filterOK d i a = true) : ∀ (l : List PathD) (i : Nat), pathsFrom c i l = true → pathsFrom d i l = true
  | [], _, _ => rfl
  | x :: r, i, h => by
    simp only [pathsFrom, Bool.and_eq_true] at h ⊢
    refine ⟨?_, pathsFrom_mono c d hg hs hf r (i + 1) h.2⟩
    unfold selsOK at h ⊢
    rw [← hg, ← hs]
    rw [List.all_eq_true] at h ⊢
    intro s hsm
    have h1 := h.1 s hsm
    rw [List.all_eq_true] at h1 ⊢
    intro y hy
    have h2 := h1 y hy
    simp only [Bool.or_eq_true] at h2 ⊢
    exact h2.imp id (hf _ _)
/-- VerifyMore's first: instructions more that no filter comes to. -/
theorem sound_app (c : CodeD) (r : List InsD) (h : soundL c = true) : soundL (withIs c (c.is ++ r)) = true := by
  unfold soundL at h ⊢
  simp only [Bool.and_eq_true] at h ⊢
  exact ⟨⟨⟨⟨h.1.1.1.1, h.1.1.1.2⟩, h.1.1.2⟩, h.1.2⟩, pathsFrom_mono c (withIs c (c.is ++ r)) rfl rfl (fun i a => filter_app c r i a) c.ps 0 h.2⟩

/-- VerifyMore's last: without instructions. -/
theorem sound_noIs (c : CodeD) (h : soundL (withIs c []) = true) : soundL c = true := by
  unfold soundL at h ⊢
  simp only [Bool.and_eq_true] at h ⊢
  refine ⟨⟨⟨⟨h.1.1.1.1, h.1.1.1.2⟩, h.1.1.2⟩, h.1.2⟩, pathsFrom_mono (withIs c []) c rfl rfl (fun i a hf => ?_) c.ps 0 h.2⟩
  exfalso
  unfold filterOK at hf
  have e : (withIs c []).is = [] := rfl
  rw [e] at hf
  by_cases h0 : a < 0
  · rw [if_pos h0] at hf; cases hf
  · rw [if_neg h0] at hf
    simp at hf
/-- A path more. -/
def withP (c : CodeD) (x : PathD) : CodeD := ⟨c.ps ++ [x], c.gs, c.ss, c.is⟩
theorem getP_more (c : CodeD) (x y : PathD) (p : Int) (h : getP c p = some y) : getP (withP c x) p = some y := by
  unfold getP at h ⊢
  by_cases h0 : p < 0
  · rw [if_pos h0] at h; cases h
  · rw [if_neg h0] at h ⊢
    have hl : p.toNat < c.ps.length := (List.getElem?_eq_some_iff.1 h).1
    show (c.ps ++ [x])[p.toNat]? = _
    rw [List.getElem?_append_left hl]; exact h
theorem single_more (c : CodeD) (x : PathD) (p : Int) (h : singleOK c p = true) : singleOK (withP c x) p = true := by
  unfold singleOK at h ⊢
  cases hg : getP c p with
  | none => rw [hg] at h; cases h
  | some y => rw [hg] at h; rw [getP_more c x y p hg]; exact h
theorem insI_more (c : CodeD) (z : PathD) (x : InsD) (p k last h d : Int) (hi : insI c x p k last h = some d) : insI (withP c z) x p k last h = some d := by
  have hps : ((withP c z).ps.length : Int) = c.ps.length + 1 := by unfold withP; simp
  unfold insI at hi ⊢
  split at hi
  · cases hi
  · split at hi
    · split at hi
      · rename_i h1 h2 h3
        have hc : p < x.p ∧ x.p < ((withP c z).ps.length : Int) ∧ (x.op = 1 → 0 ≤ x.sign ∧ x.sign ≤ 5 ∧ 0 ≤ x.kind ∧ x.kind ≤ 3 ∧ singleOK (withP c z) x.p = true) :=
          ⟨h3.1, by omega, fun h4 => by
            obtain ⟨a, b, c', e, f⟩ := h3.2.2 h4
            exact ⟨a, b, c', e, single_more c z x.p f⟩⟩
        rw [if_neg h1, if_pos h2, if_pos hc]
        exact hi
      · cases hi
    · rename_i h1 h2
      rw [if_neg h1, if_neg h2]; exact hi
theorem stepL_more (c : CodeD) (z : PathD) (x : InsD) (p : Int) (a k last : Nat) (hs h2 : List Int) (h : stepL c x p a k last hs = some h2) : stepL (withP c z) x p a k last hs = some h2 := by
  unfold stepL at h ⊢
  cases hi : insI c x p k last (hs.getD (k - a) 0) with
  | none => rw [hi] at h; cases h
  | some d => rw [hi] at h; rw [insI_more c z x p k last _ d hi]; exact h
theorem runL_more (c : CodeD) (z : PathD) (p : Int) (a last : Nat) : ∀ (l : List InsD) (k : Nat) (hs h2 : List Int), runL c p a last l k hs = some h2 → runL (withP c z) p a last l k hs = some h2
  | [], _, _, _, h => h
  | x :: l, k, hs, h2, h => by
    rw [runL] at h ⊢
    cases hst : stepL c x p a k last hs with
    | none => rw [hst] at h; cases h
    | some h3 =>
      rw [hst] at h
      rw [stepL_more c z x p a k last hs h3 hst]
      exact runL_more c z p a last l (k + 1) h3 h2 h
theorem filter_more (c : CodeD) (z : PathD) (p at_ : Int) (h : filterOK c p at_ = true) : filterOK (withP c z) p at_ = true := by
  unfold filterOK at h ⊢
  by_cases h0 : at_ < 0
  · rw [if_pos h0] at h; cases h
  · rw [if_neg h0] at h ⊢
    show (match (c.is.drop at_.toNat).findIdx? (fun x => x.op == 5) with
      | none => false
      | some n => match runL (withP c z) p at_.toNat (at_.toNat + n) ((c.is.drop at_.toNat).take n) at_.toNat (0 :: List.replicate n (-1)) with
        | none => false
        | some hs => decide (hs.getD n 0 = 1)) = true
    cases hf : (c.is.drop at_.toNat).findIdx? (fun x => x.op == 5) with
    | none => rw [hf] at h; cases h
    | some n =>
      rw [hf] at h
      simp only at h ⊢
      cases hr : runL c p at_.toNat (at_.toNat + n) ((c.is.drop at_.toNat).take n) at_.toNat (0 :: List.replicate n (-1)) with
      | none => rw [hr] at h; cases h
      | some hs => rw [hr] at h; rw [runL_more c z p _ _ _ _ _ hs hr]; exact h
theorem pathsFrom_app (c : CodeD) : ∀ (l r : List PathD) (i : Nat), pathsFrom c i (l ++ r) = (pathsFrom c i l && pathsFrom c (i + l.length) r)
  | [], r, i => by simp [pathsFrom]
  | x :: l, r, i => by
    rw [List.cons_append, pathsFrom, pathsFrom, pathsFrom_app c l r (i + 1), Bool.and_assoc, List.length_cons]
    congr 3; omega
/-- VerifyMore's second: a path more that has no segments. -/
theorem sound_more (c : CodeD) (h : soundL c = true) : soundL (withP c ⟨true, 0, 0⟩) = true := by
  unfold soundL at h ⊢
  simp only [Bool.and_eq_true] at h ⊢
  have hpk : (withP c ⟨true, 0, 0⟩).ps = c.ps ++ [⟨true, 0, 0⟩] := rfl
  refine ⟨⟨⟨⟨by rw [hpk]; simp, ?_⟩, h.1.1.2⟩, h.1.2⟩, ?_⟩
  · rw [hpk, List.all_append]
    have h1 : c.ps.all (pathOK (withP c ⟨true, 0, 0⟩)) = true := h.1.1.1.2
    rw [h1]
    show pathOK (withP c ⟨true, 0, 0⟩) ⟨true, 0, 0⟩ && true = true
    unfold pathOK inR sub
    simp
  · rw [hpk, pathsFrom_app, pathsFrom_mono c (withP c ⟨true, 0, 0⟩) rfl rfl (fun i a => filter_more c _ i a) c.ps 0 h.2]
    simp [pathsFrom, selsOK, sub]

end Go.Proofs.Ythlcbjjeklkmfaa
