/- Queries read: the mirror of the reader, in plain words (m: the program's way, or the reference's). -/
import Derived.Test.YtpcbcodmocmilaaGreatDoorRG01
namespace Go.Proofs.YtpcbcodmocmilaaGreatDoor

/-- A reader: the tokens left, the fault. -/
structure PSt where
  toks : List TokD
  fe : Int
  fa : Int
def tok0 : TokD := ⟨0, [], 0, 0, false⟩
def ovS (t : PSt) : Bool := (t.fe != 0) || t.toks.isEmpty
def atS (E : Int) (t : PSt) : Int := match t.toks with | [] => E | x :: _ => (x.at_ : Nat)
def failS (a e : Int) (t : PSt) : PSt := if t.fe = 0 then ⟨t.toks, e, a⟩ else t
def formS (E : Int) (t : PSt) : PSt := failS (atS E t) 3 t
def hdT (t : PSt) : TokD := if t.fe = 0 then (match t.toks with | x :: _ => x | [] => tok0) else tok0
def kindS (t : PSt) : Int := (hdT t).kind
def isS (l : List UInt8) (t : PSt) : Bool := decide (kindS t = 1) && ((hdT t).s == l)
def nextS (E : Int) (t : PSt) : PSt := if t.fe = 0 then (match t.toks with | _ :: r => ⟨r, t.fe, t.fa⟩ | [] => formS E t) else t
def mustS (E : Int) (l : List UInt8) (t : PSt) : PSt := if isS l t then nextS E t else formS E t
def openS (E : Int) (d : Nat) (t : PSt) : PSt := nextS E (if 32 < d + 1 then failS (atS E t) 5 t else t)
def closeS (E : Int) (t : PSt) : PSt := if (!ovS t && (hdT t).gap) then formS E t else t
def numS (E : Int) (t : PSt) : Int × Bool × PSt := if kindS t = 3 then ((hdT t).n, true, nextS E t) else (0, false, t)
def num2S (E : Int) (n : Int) (ok : Bool) (t : PSt) : SelT × PSt :=
  if isS [58] (numS E t).2.2 then
    (⟨3, [], 0, n, (numS E t).1, if (numS E (nextS E (numS E t).2.2)).2.1 then (numS E (nextS E (numS E t).2.2)).1 else 1, ok, (numS E t).2.1, none⟩, (numS E (nextS E (numS E t).2.2)).2.2)
  else (⟨3, [], 0, n, (numS E t).1, 1, ok, (numS E t).2.1, none⟩, (numS E t).2.2)
def numbersS (E : Int) (t : PSt) : SelT × PSt :=
  if isS [58] (numS E t).2.2 then num2S E (numS E t).1 (numS E t).2.1 (nextS E (numS E t).2.2)
  else (⟨2, [], (numS E t).1, 0, 0, 0, false, false, none⟩, (numS E t).2.2)
def selF (E : Int) (P : Nat → PSt → ExprT × PSt) (d : Nat) (t : PSt) : SelT × PSt :=
  if kindS t = 4 then (⟨0, (hdT t).s, 0, 0, 0, 0, false, false, none⟩, nextS E t)
  else if isS [42] t then (⟨1, [], 0, 0, 0, 0, false, false, none⟩, nextS E t)
  else if isS [63] t then (⟨4, [], 0, 0, 0, 0, false, false, some (P (d + 1) (openS E d t)).1⟩, (P (d + 1) (openS E d t)).2)
  else if (decide (kindS t = 3) || isS [58] t) then numbersS E t
  else (sel0, formS E t)
def selsL (E : Int) (P : Nat → PSt → ExprT × PSt) (d : Nat) : Nat → PSt → List SelT × PSt
  | 0, t => ([], t)
  | f + 1, t => if isS [44] t then ((selF E P d (nextS E t)).1 :: (selsL E P d f (selF E P d (nextS E t)).2).1, (selsL E P d f (selF E P d (nextS E t)).2).2) else ([], t)
def selsF (E : Int) (P : Nat → PSt → ExprT × PSt) (d : Nat) (t : PSt) : List SelT × PSt :=
  ((selF E P d (mustS E [91] t)).1 :: (selsL E P d (selF E P d (mustS E [91] t)).2.toks.length (selF E P d (mustS E [91] t)).2).1,
    mustS E [93] (selsL E P d (selF E P d (mustS E [91] t)).2.toks.length (selF E P d (mustS E [91] t)).2).2)
/-- Behind . or .. -/
def dotF (E : Int) (P : Nat → PSt → ExprT × PSt) (d : Nat) (dp : Bool) (t : PSt) : SegT × PSt :=
  if (dp && isS [91] t) then (⟨dp, (selsF E P d t).1⟩, (selsF E P d t).2)
  else if isS [42] t then (⟨dp, [⟨1, [], 0, 0, 0, 0, false, false, none⟩]⟩, nextS E t)
  else if kindS t = 2 then (⟨dp, [⟨0, (hdT t).s, 0, 0, 0, 0, false, false, none⟩]⟩, nextS E t)
  else (⟨dp, []⟩, formS E t)
def segF (E : Int) (P : Nat → PSt → ExprT × PSt) (d : Nat) (t : PSt) : SegT × PSt :=
  if isS [91] t then (⟨false, (selsF E P d t).1⟩, (selsF E P d t).2)
  else dotF E P d (isS [46, 46] t) (closeS E (nextS E t))
def isSeg (t : PSt) : Bool := isS [91] t || isS [46] t || isS [46, 46] t
def segsL (E : Int) (P : Nat → PSt → ExprT × PSt) (d : Nat) : Nat → PSt → List SegT × PSt
  | 0, t => ([], t)
  | f + 1, t => if isSeg t then ((segF E P d t).1 :: (segsL E P d f (segF E P d t).2).1, (segsL E P d f (segF E P d t).2).2) else ([], t)
def pathF (E : Int) (P : Nat → PSt → ExprT × PSt) (d : Nat) (t : PSt) : PathT × PSt :=
  (⟨isS [36] t, (segsL E P d (nextS E t).toks.length (nextS E t)).1⟩, (segsL E P d (nextS E t).toks.length (nextS E t)).2)
def isPath (t : PSt) : Bool := isS [64] t || isS [36] t
def litS (t : PSt) : Option SideT :=
  if kindS t = 3 then some ⟨true, 2, (hdT t).n, [], path0⟩
  else if kindS t = 4 then some ⟨true, 3, 0, (hdT t).s, path0⟩
  else if kindS t = 2 then (if (hdT t).s = [116, 114, 117, 101] then some ⟨true, 1, 1, [], path0⟩ else if (hdT t).s = [102, 97, 108, 115, 101] then some ⟨true, 1, 0, [], path0⟩ else if (hdT t).s = [110, 117, 108, 108] then some ⟨true, 0, 0, [], path0⟩ else none)
  else none
def sideF (E : Int) (P : Nat → PSt → ExprT × PSt) (d : Nat) (t : PSt) : SideT × PSt :=
  if isPath t then (⟨false, 0, 0, [], (pathF E P d t).1⟩, (pathF E P d t).2)
  else match litS t with | some x => (x, nextS E t) | none => (side0, formS E t)
def singB (p : PathT) : Bool := p.segs.all fun s => !s.deep && (match s.sels with | [x] => decide (x.kind = 0 ∨ x.kind = 2) | _ => false)
def opsL : List (List UInt8) := [[61, 61], [33, 61], [60], [60, 61], [62], [62, 61]]
def opS (t : PSt) : Int := if kindS t = 1 then (match opsL.findIdx? (fun x => x == (hdT t).s) with | some i => (i : Int) | none => -1) else -1
def mkE (k : Int) (l : List ExprT) : ExprT := ⟨k, l, path0, 0, side0, side0⟩
def tstE (p : PathT) : ExprT := ⟨3, [], p, 0, side0, side0⟩
/-- Behind the first side. -/
def cmp2 (E : Int) (P : Nat → PSt → ExprT × PSt) (d : Nat) (a : SideT) (t : PSt) : ExprT × PSt :=
  if opS t < 0 then (tstE a.p, if a.lit then formS E t else t)
  else (⟨4, [], path0, opS t, a, (sideF E P d (nextS E t)).1⟩,
    if (a.lit == (sideF E P d (nextS E t)).1.lit || !singB (if a.lit then (sideF E P d (nextS E t)).1.p else a.p)) then failS (atS E t) 8 (sideF E P d (nextS E t)).2 else (sideF E P d (nextS E t)).2)
def cmpF (E : Int) (P : Nat → PSt → ExprT × PSt) (d : Nat) (t : PSt) : ExprT × PSt := cmp2 E P d (sideF E P d t).1 (sideF E P d t).2
def roundF (E : Int) (P : Nat → PSt → ExprT × PSt) (d : Nat) (t : PSt) : ExprT × PSt := ((P (d + 1) (openS E d t)).1, mustS E [41] (P (d + 1) (openS E d t)).2)
/-- Behind a !. -/
def notF (m : Bool) (E : Int) (P : Nat → PSt → ExprT × PSt) (d : Nat) (t : PSt) : ExprT × PSt :=
  if isS [40] t then (mkE 2 [(roundF E P d t).1], (roundF E P d t).2)
  else if isPath t then (mkE 2 [tstE (pathF E P d t).1], (pathF E P d t).2)
  else (if m then mkE 2 [expr0] else expr0, formS E t)
def oneF (m : Bool) (E : Int) (P : Nat → PSt → ExprT × PSt) (d : Nat) (t : PSt) : ExprT × PSt :=
  if isS [33] t then notF m E P (d + 1) (openS E d t)
  else if isS [40] t then roundF E P d t
  else cmpF E P d t
def listL (E : Int) (sg : List UInt8) (F : PSt → ExprT × PSt) : Nat → PSt → List ExprT × PSt
  | 0, t => ([], t)
  | f + 1, t => if isS sg t then ((F (nextS E t)).1 :: (listL E sg F f (F (nextS E t)).2).1, (listL E sg F f (F (nextS E t)).2).2) else ([], t)
def joinE (k : Int) (x : ExprT) (l : List ExprT) : ExprT := if l = [] then x else mkE k (x :: l)
def listF (E : Int) (sg : List UInt8) (k : Int) (F : PSt → ExprT × PSt) (t : PSt) : ExprT × PSt :=
  (joinE k (F t).1 (listL E sg F (F t).2.toks.length (F t).2).1, (listL E sg F (F t).2.toks.length (F t).2).2)
def andF (m : Bool) (E : Int) (P : Nat → PSt → ExprT × PSt) (d : Nat) (t : PSt) : ExprT × PSt := listF E [38, 38] 1 (oneF m E P d) t
def orF (m : Bool) (E : Int) (P : Nat → PSt → ExprT × PSt) (d : Nat) (t : PSt) : ExprT × PSt := listF E [124, 124] 0 (andF m E P d) t
def orS (m : Bool) (E : Int) : Nat → Nat → PSt → ExprT × PSt
  | 0, _, t => (expr0, t)
  | n + 1, d, t => orF m E (orS m E n) d t
def parse1 (m : Bool) (E : Int) (t : PSt) : PathT × PSt := pathF E (orS m E 34) 0 (if isS [36] t then t else formS E t)
def parse2 (m : Bool) (E : Int) (t : PSt) : Except (Int × Int) PathT :=
  if (if ovS (parse1 m E t).2 then (parse1 m E t).2 else formS E (parse1 m E t).2).fe = 0 then .ok (parse1 m E t).1
  else .error ((if ovS (parse1 m E t).2 then (parse1 m E t).2 else formS E (parse1 m E t).2).fe, (if ovS (parse1 m E t).2 then (parse1 m E t).2 else formS E (parse1 m E t).2).fa)
def stOf (l : List UInt8) : PSt := match lexL l with | .ok r => ⟨r, 0, 0⟩ | .error e => ⟨[], e.1, (e.2 : Nat)⟩
/-- The query of a text, or the first fault. -/
def parseT (m : Bool) (l : List UInt8) : Except (Int × Int) PathT := parse2 m (l.length : Nat) (stOf l)

section
variable {E : Int} {t : PSt}
theorem hdT_bad (h : t.fe ≠ 0) : hdT t = tok0 := by unfold hdT; rw [if_neg h]
theorem isS_bad (l : List UInt8) (h : t.fe ≠ 0) : isS l t = false := by unfold isS kindS; rw [hdT_bad h]; rfl
theorem isS_ok {l : List UInt8} (h : isS l t = true) : t.fe = 0 ∧ ∃ x r, t.toks = x :: r ∧ x.kind = 1 ∧ x.s = l := by
  by_cases hf : t.fe = 0
  · refine ⟨hf, ?_⟩
    unfold isS kindS hdT at h
    rw [if_pos hf] at h
    cases ht : t.toks with
    | nil => rw [ht] at h; simp [tok0] at h
    | cons x r => rw [ht] at h; simp at h; exact ⟨x, r, rfl, h.1, h.2⟩
  · rw [isS_bad l hf] at h; cases h
theorem formS_bad (h : t.fe ≠ 0) : formS E t = t := by unfold formS failS; rw [if_neg h]
theorem nextS_bad (h : t.fe ≠ 0) : nextS E t = t := by unfold nextS; rw [if_neg h]
theorem failS_bad {a e : Int} (h : t.fe ≠ 0) : failS a e t = t := by unfold failS; rw [if_neg h]
theorem failS_len (a e : Int) (t : PSt) : (failS a e t).toks = t.toks := by unfold failS; split <;> rfl
theorem formS_len (E : Int) (t : PSt) : (formS E t).toks = t.toks := failS_len _ _ _
theorem formS_fe (E : Int) (t : PSt) : (formS E t).fe ≠ 0 := by
  unfold formS failS
  split
  · simp
  · assumption
theorem nextS_le (E : Int) (t : PSt) : (nextS E t).toks.length ≤ t.toks.length := by
  unfold nextS
  split
  · cases ht : t.toks with
    | nil => simp only; rw [formS_len, ht]; exact Nat.le_refl _
    | cons x r => simp
  · exact Nat.le_refl _
theorem nextS_lt {E : Int} {t : PSt} (h : t.fe = 0) (h1 : t.toks ≠ []) : (nextS E t).toks.length < t.toks.length := by
  unfold nextS
  rw [if_pos h]
  cases ht : t.toks with
  | nil => exact absurd ht h1
  | cons x r => simp
theorem is_lt {E : Int} {l : List UInt8} {t : PSt} (h : isS l t = true) : (nextS E t).toks.length < t.toks.length := by
  obtain ⟨h1, x, r, h2, -, -⟩ := isS_ok h
  exact nextS_lt h1 (by rw [h2]; simp)
theorem mustS_le (E : Int) (l : List UInt8) (t : PSt) : (mustS E l t).toks.length ≤ t.toks.length := by
  unfold mustS; split
  · exact nextS_le E t
  · rw [formS_len]; exact Nat.le_refl _
theorem closeS_le (E : Int) (t : PSt) : (closeS E t).toks.length ≤ t.toks.length := by
  unfold closeS; split
  · rw [formS_len]; exact Nat.le_refl _
  · exact Nat.le_refl _
theorem openS_le (E : Int) (d : Nat) (t : PSt) : (openS E d t).toks.length ≤ t.toks.length := by
  unfold openS
  refine Nat.le_trans (nextS_le E _) ?_
  split
  · rw [failS_len]; exact Nat.le_refl _
  · exact Nat.le_refl _
theorem numS_le (E : Int) (t : PSt) : (numS E t).2.2.toks.length ≤ t.toks.length := by
  unfold numS; split
  · exact nextS_le E t
  · exact Nat.le_refl _
end
/-- P reads on. -/
def LeP (P : Nat → PSt → ExprT × PSt) : Prop := ∀ d t, (P d t).2.toks.length ≤ t.toks.length
section
variable {E : Int} {P : Nat → PSt → ExprT × PSt} (hP : LeP P) (d : Nat)
theorem num2S_le (n : Int) (ok : Bool) (t : PSt) : (num2S E n ok t).2.toks.length ≤ t.toks.length := by
  unfold num2S
  have h1 := numS_le E t
  split
  · have h2 := numS_le E (nextS E (numS E t).2.2)
    have h3 := nextS_le E (numS E t).2.2
    simp only; omega
  · exact h1
theorem numbersS_le (t : PSt) : (numbersS E t).2.toks.length ≤ t.toks.length := by
  unfold numbersS
  have h1 := numS_le E t
  split
  · have h2 := num2S_le (E := E) (numS E t).1 (numS E t).2.1 (nextS E (numS E t).2.2)
    have h3 := nextS_le E (numS E t).2.2
    omega
  · exact h1
include hP
theorem selF_le (t : PSt) : (selF E P d t).2.toks.length ≤ t.toks.length := by
  unfold selF
  have h1 := nextS_le E t
  have h2 := hP (d + 1) (openS E d t)
  have h3 := openS_le E d t
  have h4 := numbersS_le (E := E) t
  (repeat' split) <;> first | exact h1 | (simp only; omega) | exact h4 | (rw [formS_len]; exact Nat.le_refl _)
theorem selsL_le : ∀ (f : Nat) (t : PSt), (selsL E P d f t).2.toks.length ≤ t.toks.length
  | 0, _ => Nat.le_refl _
  | f + 1, t => by
    rw [selsL]
    split
    · have h1 := selsL_le f (selF E P d (nextS E t)).2
      have h2 := selF_le hP d (E := E) (nextS E t)
      have h3 := nextS_le E t
      simp only; omega
    · exact Nat.le_refl _
theorem selsF_le (t : PSt) : (selsF E P d t).2.toks.length ≤ t.toks.length := by
  unfold selsF
  have h1 := mustS_le E [91] t
  have h2 := selF_le hP d (E := E) (mustS E [91] t)
  have h3 := selsL_le hP d (E := E) (selF E P d (mustS E [91] t)).2.toks.length (selF E P d (mustS E [91] t)).2
  have h4 := mustS_le E [93] (selsL E P d (selF E P d (mustS E [91] t)).2.toks.length (selF E P d (mustS E [91] t)).2).2
  simp only; omega
theorem dotF_le (dp : Bool) (t : PSt) : (dotF E P d dp t).2.toks.length ≤ t.toks.length := by
  unfold dotF
  have h1 := nextS_le E t
  have h2 := selsF_le hP d (E := E) t
  (repeat' split) <;> first | exact h1 | exact h2 | (simp only; omega) | (rw [formS_len]; exact Nat.le_refl _)
/-- A segment takes a token at least. -/
theorem segF_lt {t : PSt} (h : isSeg t = true) : (segF E P d t).2.toks.length < t.toks.length := by
  unfold segF
  have h0 : ∃ l, isS l t = true := by
    unfold isSeg at h
    rw [Bool.or_eq_true, Bool.or_eq_true] at h
    rcases h with (h | h) | h
    · exact ⟨_, h⟩
    · exact ⟨_, h⟩
    · exact ⟨_, h⟩
  obtain ⟨l, hl⟩ := h0
  have h1 := is_lt (E := E) hl
  split
  · rename_i h91
    unfold selsF
    have h2 : (mustS E [91] t).toks.length < t.toks.length := by unfold mustS; rw [if_pos h91]; exact h1
    have h3 := selF_le hP d (E := E) (mustS E [91] t)
    have h4 := selsL_le hP d (E := E) (selF E P d (mustS E [91] t)).2.toks.length (selF E P d (mustS E [91] t)).2
    have h5 := mustS_le E [93] (selsL E P d (selF E P d (mustS E [91] t)).2.toks.length (selF E P d (mustS E [91] t)).2).2
    simp only; omega
  · have h2 := dotF_le hP d (E := E) (isS [46, 46] t) (closeS E (nextS E t))
    have h3 := closeS_le E (nextS E t)
    omega
theorem segsL_le : ∀ (f : Nat) (t : PSt), (segsL E P d f t).2.toks.length ≤ t.toks.length
  | 0, _ => Nat.le_refl _
  | f + 1, t => by
    rw [segsL]
    split
    · rename_i h
      have h1 := segsL_le f (segF E P d t).2
      have h2 := segF_lt hP d (E := E) h
      simp only; omega
    · exact Nat.le_refl _
theorem pathF_le (t : PSt) : (pathF E P d t).2.toks.length ≤ t.toks.length := by
  unfold pathF
  have h1 := segsL_le hP d (E := E) (nextS E t).toks.length (nextS E t)
  have h2 := nextS_le E t
  simp only; omega
theorem sideF_le (t : PSt) : (sideF E P d t).2.toks.length ≤ t.toks.length := by
  unfold sideF
  have h1 := pathF_le hP d (E := E) t
  have h2 := nextS_le E t
  (repeat' split) <;> first | exact h1 | exact h2 | (simp only; omega) | (rw [formS_len]; exact Nat.le_refl _)
theorem cmp2_le (a : SideT) (t : PSt) : (cmp2 E P d a t).2.toks.length ≤ t.toks.length := by
  unfold cmp2
  have h1 := nextS_le E t
  have h2 := sideF_le hP d (E := E) (nextS E t)
  split
  · simp only; split
    · rw [formS_len]; exact Nat.le_refl _
    · exact Nat.le_refl _
  · have k : ∀ b : Bool, (if b = true then failS (atS E t) 8 (sideF E P d (nextS E t)).2 else (sideF E P d (nextS E t)).2).toks.length ≤ t.toks.length := by
      intro b
      cases b
      · simp only [Bool.false_eq_true, if_false]; omega
      · simp only [if_true]; rw [failS_len]; omega
    exact k _
theorem cmpF_le (t : PSt) : (cmpF E P d t).2.toks.length ≤ t.toks.length := by
  unfold cmpF
  exact Nat.le_trans (cmp2_le hP d _ _) (sideF_le hP d t)
theorem roundF_le (t : PSt) : (roundF E P d t).2.toks.length ≤ t.toks.length := by
  unfold roundF
  have h1 := hP (d + 1) (openS E d t)
  have h2 := openS_le E d t
  have h3 := mustS_le E [41] (P (d + 1) (openS E d t)).2
  simp only; omega
theorem notF_le (m : Bool) (t : PSt) : (notF m E P d t).2.toks.length ≤ t.toks.length := by
  unfold notF
  have h1 := roundF_le hP d (E := E) t
  have h2 := pathF_le hP d (E := E) t
  (repeat' split) <;> first | exact h1 | exact h2 | (simp only; omega) | (simp only; rw [formS_len]; exact Nat.le_refl _)
theorem oneF_le (m : Bool) (t : PSt) : (oneF m E P d t).2.toks.length ≤ t.toks.length := by
  unfold oneF
  have h1 := notF_le hP (d + 1) m (E := E) (openS E d t)
  have h2 := openS_le E d t
  have h3 := roundF_le hP d (E := E) t
  have h4 := cmpF_le hP d (E := E) t
  (repeat' split) <;> first | exact h3 | exact h4 | omega
end
theorem listL_le {E : Int} {sg : List UInt8} {F : PSt → ExprT × PSt} (hF : ∀ t, (F t).2.toks.length ≤ t.toks.length) : ∀ (f : Nat) (t : PSt), (listL E sg F f t).2.toks.length ≤ t.toks.length
  | 0, _ => Nat.le_refl _
  | f + 1, t => by
    rw [listL]
    split
    · have h1 := listL_le hF (E := E) (sg := sg) f (F (nextS E t)).2
      have h2 := hF (nextS E t)
      have h3 := nextS_le E t
      simp only; omega
    · exact Nat.le_refl _
theorem listF_le {E : Int} {sg : List UInt8} {k : Int} {F : PSt → ExprT × PSt} (hF : ∀ t, (F t).2.toks.length ≤ t.toks.length) (t : PSt) : (listF E sg k F t).2.toks.length ≤ t.toks.length := by
  unfold listF
  exact Nat.le_trans (listL_le hF _ _) (hF t)
theorem orF_le {m : Bool} {E : Int} {P : Nat → PSt → ExprT × PSt} (hP : LeP P) : LeP (orF m E P) := fun d t => listF_le (fun t => listF_le (fun t => oneF_le hP d m t) t) t
theorem orS_le (m : Bool) (E : Int) : ∀ n, LeP (orS m E n)
  | 0 => fun _ _ => Nat.le_refl _
  | n + 1 => orF_le (orS_le m E n)

end Go.Proofs.YtpcbcodmocmilaaGreatDoor
