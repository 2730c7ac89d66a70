/- Queries read, plain: the tokens' places change nothing but a fault's place (no word of a dump). -/
import Derived.Test.YtmopeandckmgcaaDoorQp
namespace Go.Proofs.YtmopeandckmgcaaDoor

/-- The same token, wherever it stands. -/
structure SameG (x y : TokD) : Prop where
  kind : x.kind = y.kind
  s : x.s = y.s
  n : x.n = y.n
  gap : x.gap = y.gap
def AllG : List TokD → List TokD → Prop
  | [], [] => True
  | x :: l, y :: m => SameG x y ∧ AllG l m
  | _, _ => False
theorem AllG.len : ∀ {l m : List TokD}, AllG l m → l.length = m.length
  | [], [], _ => rfl
  | _ :: _, _ :: _, h => by rw [List.length_cons, List.length_cons, AllG.len h.2]
  | [], _ :: _, h => h.elim
  | _ :: _, [], h => h.elim
structure StA (t t' : PSt) : Prop where
  toks : AllG t.toks t'.toks
  fe : t.fe = t'.fe
/-- The same tree, states alike. -/
structure ResA {α : Type} (a b : α × PSt) : Prop where
  eq : a.1 = b.1
  st : StA a.2 b.2
section
variable {E E' : Int} {t t' : PSt} (h : StA t t')
include h
theorem StA.hd : SameG (hdT t) (hdT t') := by
  unfold hdT
  rw [← h.fe]
  have := h.toks
  split
  · cases h1 : t.toks with
    | nil =>
      cases h2 : t'.toks with
      | nil => exact ⟨rfl, rfl, rfl, rfl⟩
      | cons y m => rw [h1, h2] at this; exact this.elim
    | cons x l =>
      cases h2 : t'.toks with
      | nil => rw [h1, h2] at this; exact this.elim
      | cons y m => rw [h1, h2] at this; exact this.1
  · exact ⟨rfl, rfl, rfl, rfl⟩
theorem StA.len : t.toks.length = t'.toks.length := h.toks.len
theorem StA.ov : ovS t = ovS t' := by
  unfold ovS
  rw [h.fe]
  have := h.len
  congr 1
  rw [Bool.eq_iff_iff, List.isEmpty_iff, List.isEmpty_iff]
  rw [← List.length_eq_zero_iff, ← List.length_eq_zero_iff, this]
theorem StA.ki : kindS t = kindS t' := h.hd.kind
theorem StA.is (l : List UInt8) : isS l t = isS l t' := by unfold isS; rw [h.ki, h.hd.s]
theorem StA.fail (a a' e : Int) : StA (failS a e t) (failS a' e t') := by
  unfold failS
  rw [← h.fe]
  split
  · exact ⟨h.toks, rfl⟩
  · exact h
theorem StA.form : StA (formS E t) (formS E' t') := h.fail _ _ _
theorem StA.next : StA (nextS E t) (nextS E' t') := by
  unfold nextS
  rw [← h.fe]
  have := h.toks
  split
  · cases h1 : t.toks with
    | nil =>
      cases h2 : t'.toks with
      | nil => exact h.form
      | cons y m => rw [h1, h2] at this; exact this.elim
    | cons x l =>
      cases h2 : t'.toks with
      | nil => rw [h1, h2] at this; exact this.elim
      | cons y m => rw [h1, h2] at this; exact ⟨this.2, rfl⟩
  · exact h
theorem StA.must (l : List UInt8) : StA (mustS E l t) (mustS E' l t') := by
  unfold mustS
  rw [h.is l]
  split
  · exact h.next
  · exact h.form
theorem StA.open (d : Nat) : StA (openS E d t) (openS E' d t') := by
  unfold openS
  split
  · exact (h.fail _ _ _).next
  · exact h.next
theorem StA.close : StA (closeS E t) (closeS E' t') := by
  unfold closeS
  rw [h.ov, h.hd.gap]
  split
  · exact h.form
  · exact h
theorem StA.num : (numS E t).1 = (numS E' t').1 ∧ (numS E t).2.1 = (numS E' t').2.1 ∧ StA (numS E t).2.2 (numS E' t').2.2 := by
  unfold numS
  rw [h.ki, h.hd.n]
  split
  · exact ⟨rfl, rfl, h.next⟩
  · exact ⟨rfl, rfl, h⟩
theorem StA.seg : isSeg t = isSeg t' := by unfold isSeg; rw [h.is, h.is, h.is]
theorem StA.path : isPath t = isPath t' := by unfold isPath; rw [h.is, h.is]
theorem StA.lit : litS t = litS t' := by unfold litS; rw [h.ki, h.hd.n, h.hd.s]
theorem StA.op : opS t = opS t' := by unfold opS; rw [h.ki, h.hd.s]
end
theorem ResA.map {α β : Type} {a b : α × PSt} (h : ResA a b) (g : α → β) : ResA (g a.1, a.2) (g b.1, b.2) := ⟨congrArg g h.eq, h.st⟩
theorem ResA.seq {α β γ : Type} {a a' : α × PSt} {b b' : PSt → β × PSt} (h : ResA a a') (g : α → β → γ) (h2 : ∀ s s', StA s s' → ResA (b s) (b' s')) : ResA (g a.1 (b a.2).1, (b a.2).2) (g a'.1 (b' a'.2).1, (b' a'.2).2) :=
  ⟨by have := (h2 _ _ h.st).eq; simp only; rw [h.eq, this], (h2 _ _ h.st).st⟩
def AlikeP (P P' : Nat → PSt → ExprT × PSt) : Prop := ∀ d t t', StA t t' → ResA (P d t) (P' d t')
section
variable {E E' : Int} {P P' : Nat → PSt → ExprT × PSt} (d : Nat)
theorem alike_num2S (n : Int) (ok : Bool) {t t' : PSt} (h : StA t t') : ResA (num2S E n ok t) (num2S E' n ok t') := by
  obtain ⟨e1, e2, h1⟩ := h.num (E := E) (E' := E')
  obtain ⟨e3, e4, h2⟩ := (h1.next (E := E) (E' := E')).num (E := E) (E' := E')
  unfold num2S
  rw [e1, e2, e3, e4, h1.is]
  split
  · exact ⟨rfl, h2⟩
  · exact ⟨rfl, h1⟩
theorem alike_numbersS {t t' : PSt} (h : StA t t') : ResA (numbersS E t) (numbersS E' t') := by
  obtain ⟨e1, e2, h1⟩ := h.num (E := E) (E' := E')
  unfold numbersS
  rw [e1, e2, h1.is]
  split
  · exact alike_num2S _ _ h1.next
  · exact ⟨rfl, h1⟩
variable (hP : AlikeP P P')
include hP
theorem alike_selF {t t' : PSt} (h : StA t t') : ResA (selF E P d t) (selF E' P' d t') := by
  unfold selF
  rw [h.ki, h.is, h.is, h.is, h.hd.s]
  split
  · exact ⟨rfl, h.next⟩
  split
  · exact ⟨rfl, h.next⟩
  split
  · exact (hP (d + 1) _ _ (h.open d)).map fun x => (⟨4, [], 0, 0, 0, 0, false, false, some x⟩ : SelT)
  split
  · exact alike_numbersS h
  · exact ⟨rfl, h.form⟩
theorem alike_selsL : ∀ (f : Nat) {t t' : PSt}, StA t t' → ResA (selsL E P d f t) (selsL E' P' d f t')
  | 0, _, _, h => ⟨rfl, h⟩
  | f + 1, t, t', h => by
    rw [selsL, selsL, h.is]
    split
    · exact (alike_selF d hP h.next).seq (fun x l => x :: l) fun s s' hs => alike_selsL f hs
    · exact ⟨rfl, h⟩
theorem alike_selsF {t t' : PSt} (h : StA t t') : ResA (selsF E P d t) (selsF E' P' d t') := by
  have h1 := alike_selF d hP (h.must (E := E) (E' := E') [91]) (E := E) (E' := E')
  have h2 := h1.seq (fun x l => x :: l) (b := fun s => selsL E P d s.toks.length s) (b' := fun s => selsL E' P' d s.toks.length s) fun s s' hs => by
    rw [hs.len]
    exact alike_selsL d hP _ hs
  exact ⟨h2.eq, h2.st.must [93]⟩
theorem alike_dotF (dp : Bool) {t t' : PSt} (h : StA t t') : ResA (dotF E P d dp t) (dotF E' P' d dp t') := by
  unfold dotF
  rw [h.ki, h.is, h.is, h.hd.s]
  split
  · exact (alike_selsF d hP h).map fun l => (⟨dp, l⟩ : SegT)
  split
  · exact ⟨rfl, h.next⟩
  split
  · exact ⟨rfl, h.next⟩
  · exact ⟨rfl, h.form⟩
theorem alike_segF {t t' : PSt} (h : StA t t') : ResA (segF E P d t) (segF E' P' d t') := by
  unfold segF
  rw [h.is, h.is]
  split
  · exact (alike_selsF d hP h).map fun l => (⟨false, l⟩ : SegT)
  · exact alike_dotF d hP _ h.next.close
theorem alike_segsL : ∀ (f : Nat) {t t' : PSt}, StA t t' → ResA (segsL E P d f t) (segsL E' P' d f t')
  | 0, _, _, h => ⟨rfl, h⟩
  | f + 1, t, t', h => by
    rw [segsL, segsL, h.seg]
    split
    · exact (alike_segF d hP h).seq (fun x l => x :: l) fun s s' hs => alike_segsL f hs
    · exact ⟨rfl, h⟩
theorem alike_pathF {t t' : PSt} (h : StA t t') : ResA (pathF E P d t) (pathF E' P' d t') := by
  unfold pathF
  rw [h.is, (h.next (E := E) (E' := E')).len]
  exact (alike_segsL d hP _ h.next).map fun l => (⟨isS [36] t', l⟩ : PathT)
theorem alike_sideF {t t' : PSt} (h : StA t t') : ResA (sideF E P d t) (sideF E' P' d t') := by
  unfold sideF
  rw [h.path, h.lit]
  split
  · exact (alike_pathF d hP h).map fun p => (⟨false, 0, 0, [], p⟩ : SideT)
  · cases litS t' with
    | some x => exact ⟨rfl, h.next⟩
    | none => exact ⟨rfl, h.form⟩
theorem alike_cmp2 (a : SideT) {t t' : PSt} (h : StA t t') : ResA (cmp2 E P d a t) (cmp2 E' P' d a t') := by
  have h1 := alike_sideF d hP (h.next (E := E) (E' := E')) (E := E) (E' := E')
  unfold cmp2
  rw [h.op, h1.eq]
  split
  · refine ⟨rfl, ?_⟩
    simp only
    split
    · exact h.form
    · exact h
  · refine ⟨rfl, ?_⟩
    have k : ∀ (b : Bool) (x y : PSt) (a a' : Int), StA x y → StA (if b = true then failS a 8 x else x) (if b = true then failS a' 8 y else y) := fun b x y a a' hxy => by
      cases b
      · exact hxy
      · exact hxy.fail _ _ _
    exact k _ _ _ _ _ h1.st
theorem alike_cmpF {t t' : PSt} (h : StA t t') : ResA (cmpF E P d t) (cmpF E' P' d t') := by
  have h1 := alike_sideF d hP h (E := E) (E' := E')
  unfold cmpF
  rw [h1.eq]
  exact alike_cmp2 d hP _ h1.st
theorem alike_roundF {t t' : PSt} (h : StA t t') : ResA (roundF E P d t) (roundF E' P' d t') := by
  have h1 := hP (d + 1) _ _ (h.open (E := E) (E' := E') d)
  exact ⟨h1.eq, h1.st.must [41]⟩
theorem alike_notF (m : Bool) {t t' : PSt} (h : StA t t') : ResA (notF m E P d t) (notF m E' P' d t') := by
  unfold notF
  rw [h.is, h.path]
  split
  · exact (alike_roundF d hP h).map fun x => mkE 2 [x]
  split
  · exact (alike_pathF d hP h).map fun p => mkE 2 [tstE p]
  · exact ⟨rfl, h.form⟩
theorem alike_oneF (m : Bool) {t t' : PSt} (h : StA t t') : ResA (oneF m E P d t) (oneF m E' P' d t') := by
  unfold oneF
  rw [h.is, h.is]
  split
  · exact alike_notF (d + 1) hP m (h.open d)
  split
  · exact alike_roundF d hP h
  · exact alike_cmpF d hP h
end
theorem alike_listL {E E' : Int} {sg : List UInt8} {F F' : PSt → ExprT × PSt} (hF : ∀ t t', StA t t' → ResA (F t) (F' t')) : ∀ (f : Nat) {t t' : PSt}, StA t t' → ResA (listL E sg F f t) (listL E' sg F' f t')
  | 0, _, _, h => ⟨rfl, h⟩
  | f + 1, t, t', h => by
    rw [listL, listL, h.is]
    split
    · exact (hF _ _ h.next).seq (fun x l => x :: l) fun s s' hs => alike_listL hF f hs
    · exact ⟨rfl, h⟩
theorem alike_listF {E E' : Int} {sg : List UInt8} {k : Int} {F F' : PSt → ExprT × PSt} (hF : ∀ t t', StA t t' → ResA (F t) (F' t')) {t t' : PSt} (h : StA t t') : ResA (listF E sg k F t) (listF E' sg k F' t') :=
  (hF _ _ h).seq (joinE k) (b := fun s => listL E sg F s.toks.length s) (b' := fun s => listL E' sg F' s.toks.length s) fun s s' hs => by
    rw [hs.len]
    exact alike_listL hF _ hs
theorem alike_orF {E E' : Int} {P P' : Nat → PSt → ExprT × PSt} (hP : AlikeP P P') (m : Bool) : AlikeP (orF m E P) (orF m E' P') := fun d _ _ h =>
  alike_listF (fun _ _ h => alike_listF (fun _ _ h => alike_oneF d hP m h) h) h
theorem alike_orS (m : Bool) (E E' : Int) : ∀ n, AlikeP (orS m E n) (orS m E' n)
  | 0 => fun _ _ _ h => ⟨rfl, h⟩
  | n + 1 => alike_orF (alike_orS m E E' n) m
theorem alike_parse1 (m : Bool) (E E' : Int) {t t' : PSt} (h : StA t t') : ResA (parse1 m E t) (parse1 m E' t') := by
  unfold parse1
  rw [h.is]
  split
  · exact alike_pathF 0 (alike_orS m E E' 34) h
  · exact alike_pathF 0 (alike_orS m E E' 34) h.form
/-- The same query, or the same fault elsewhere. -/
theorem alike_parse2 (m : Bool) (E E' : Int) {t t' : PSt} (h : StA t t') : match parse2 m E t with | .ok p => parse2 m E' t' = .ok p | .error (e, _) => ∃ a, parse2 m E' t' = .error (e, a) := by
  have h1 := alike_parse1 m E E' h
  have hu : StA (if ovS (parse1 m E t).2 then (parse1 m E t).2 else formS E (parse1 m E t).2) (if ovS (parse1 m E' t').2 then (parse1 m E' t').2 else formS E' (parse1 m E' t').2) := by
    rw [h1.st.ov]
    split
    · exact h1.st
    · exact h1.st.form
  unfold parse2
  rw [← h1.eq, ← hu.fe]
  generalize (if ovS (parse1 m E t).2 then (parse1 m E t).2 else formS E (parse1 m E t).2) = u
  by_cases hf : u.fe = 0
  · rw [if_pos hf, if_pos hf]
  · rw [if_neg hf, if_neg hf]
    exact ⟨_, rfl⟩

end Go.Proofs.YtmopeandckmgcaaDoor
