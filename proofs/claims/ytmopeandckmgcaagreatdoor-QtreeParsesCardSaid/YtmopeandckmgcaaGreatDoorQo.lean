/- Queries read, plain: the two ways of reading give one tree, where there is no fault (no word of a dump). -/
import Derived.Test.YtmopeandckmgcaaGreatDoorG05
namespace Go.Proofs.YtmopeandckmgcaaGreatDoor

/-- The same state, and the same tree where there is no fault. -/
def SameR {α : Type} (a b : α × PSt) : Prop := a.2 = b.2 ∧ (a.2.fe = 0 → a.1 = b.1)
theorem SameR.refl {α : Type} (a : α × PSt) : SameR a a := ⟨rfl, fun _ => rfl⟩
theorem SameR.map {α β : Type} {a b : α × PSt} (h : SameR a b) (g : α → β) : SameR (g a.1, a.2) (g b.1, b.2) := ⟨h.1, fun e => congrArg g (h.2 e)⟩
theorem SameR.post {α : Type} {a b : α × PSt} (h : SameR a b) (u : PSt → PSt) (hu : ∀ s, s.fe ≠ 0 → u s = s) : SameR (a.1, u a.2) (b.1, u b.2) :=
  ⟨congrArg u h.1, fun e => h.2 (Classical.byContradiction fun hs => by simp only at e; rw [hu _ hs] at e; exact hs e)⟩
theorem SameR.seq {α β γ : Type} {a a' : α × PSt} {b b' : PSt → β × PSt} (g : α → β → γ) (h1 : SameR a a') (h2 : ∀ s, SameR (b s) (b' s)) (hb : ∀ s, s.fe ≠ 0 → (b s).2 = s) : SameR (g a.1 (b a.2).1, (b a.2).2) (g a'.1 (b' a'.2).1, (b' a'.2).2) := by
  obtain ⟨x, s⟩ := a
  obtain ⟨x', s'⟩ := a'
  obtain ⟨e1, e2⟩ := h1
  simp only at e1 e2
  subst e1
  refine ⟨(h2 s).1, fun e => ?_⟩
  simp only at e ⊢
  have hs : s.fe = 0 := Classical.byContradiction fun hs => by rw [hb s hs] at e; exact hs e
  rw [e2 hs, (h2 s).2 e]
/-- Two readers of expressions. -/
def Eqp (P P' : Nat → PSt → ExprT × PSt) : Prop := ∀ d t, SameR (P d t) (P' d t)
section
variable {E : Int} {P P' : Nat → PSt → ExprT × PSt} (h : Eqp P P') (d : Nat)
include h
theorem same_selF (t : PSt) : SameR (selF E P d t) (selF E P' d t) := by
  unfold selF
  have k := h (d + 1) (openS E d t)
  split
  · exact .refl _
  split
  · exact .refl _
  split
  · exact k.map fun x => (⟨4, [], 0, 0, 0, 0, false, false, some x⟩ : SelT)
  exact .refl _
theorem same_selsL : ∀ (f : Nat) (t : PSt), SameR (selsL E P d f t) (selsL E P' d f t)
  | 0, _ => .refl _
  | f + 1, t => by
    rw [selsL, selsL]
    split
    · exact SameR.seq (fun x l => x :: l) (same_selF h d (nextS E t)) (fun s => same_selsL f s) (fun s hs => by rw [selsL_bad f hs])
    · exact .refl _
theorem same_selsF (t : PSt) : SameR (selsF E P d t) (selsF E P' d t) := by
  unfold selsF
  exact (SameR.seq (fun x l => x :: l) (same_selF h d (mustS E [91] t)) (b := fun s => selsL E P d s.toks.length s) (b' := fun s => selsL E P' d s.toks.length s) (fun s => same_selsL h d _ s) (fun s hs => by rw [selsL_bad _ hs])).post (mustS E [93]) fun s hs => must_bad _ hs
theorem same_dotF (dp : Bool) (t : PSt) : SameR (dotF E P d dp t) (dotF E P' d dp t) := by
  unfold dotF
  split
  · exact (same_selsF h d t).map fun l => (⟨dp, l⟩ : SegT)
  · exact .refl _
theorem same_segF (t : PSt) : SameR (segF E P d t) (segF E P' d t) := by
  unfold segF
  split
  · exact (same_selsF h d t).map fun l => (⟨false, l⟩ : SegT)
  · exact same_dotF h d _ _
theorem same_segsL : ∀ (f : Nat) (t : PSt), SameR (segsL E P d f t) (segsL E P' d f t)
  | 0, _ => .refl _
  | f + 1, t => by
    rw [segsL, segsL]
    split
    · exact SameR.seq (fun x l => x :: l) (same_segF h d t) (fun s => same_segsL f s) (fun s hs => by rw [segsL_bad f hs])
    · exact .refl _
theorem same_pathF (t : PSt) : SameR (pathF E P d t) (pathF E P' d t) := by
  unfold pathF
  exact (same_segsL h d _ _).map fun l => (⟨isS [36] t, l⟩ : PathT)
theorem same_sideF (t : PSt) : SameR (sideF E P d t) (sideF E P' d t) := by
  unfold sideF
  split
  · exact (same_pathF h d t).map fun p => (⟨false, 0, 0, [], p⟩ : SideT)
  · exact .refl _
theorem same_cmp2 (a : SideT) (t : PSt) : SameR (cmp2 E P d a t) (cmp2 E P' d a t) := by
  unfold cmp2
  split
  · exact .refl _
  · obtain ⟨e1, e2⟩ := same_sideF (E := E) h d (nextS E t)
    by_cases hs : (sideF E P d (nextS E t)).2.fe = 0
    · rw [e2 hs, e1]
      exact .refl _
    · have hs' := hs
      rw [e1] at hs'
      have k : ∀ (b : Bool) (s : PSt), s.fe ≠ 0 → (if b = true then failS (atS E t) 8 s else s) = s := fun b s hs => by
        cases b
        · rfl
        · rw [if_pos rfl, failS_bad hs]
      refine ⟨?_, fun e => ?_⟩
      · simp only
        rw [k _ _ hs, k _ _ hs', e1]
      · simp only at e
        rw [k _ _ hs] at e
        exact absurd e hs
theorem same_cmpF (t : PSt) : SameR (cmpF E P d t) (cmpF E P' d t) := by
  unfold cmpF
  obtain ⟨e1, e2⟩ := same_sideF (E := E) h d t
  by_cases hs : (sideF E P d t).2.fe = 0
  · rw [e2 hs, e1]
    exact same_cmp2 h d _ _
  · have hs' := hs
    rw [e1] at hs'
    rw [cmp2_bad _ hs, cmp2_bad _ hs', e1]
    exact ⟨rfl, fun e => absurd e hs'⟩
theorem same_roundF (t : PSt) : SameR (roundF E P d t) (roundF E P' d t) := by
  unfold roundF
  exact (h (d + 1) (openS E d t)).post (mustS E [41]) fun s hs => must_bad _ hs
theorem same_notF (m m' : Bool) (t : PSt) : SameR (notF m E P d t) (notF m' E P' d t) := by
  unfold notF
  split
  · exact (same_roundF h d t).map fun x => mkE 2 [x]
  split
  · exact (same_pathF h d t).map fun p => mkE 2 [tstE p]
  · exact ⟨rfl, fun e => absurd e (formS_fe E t)⟩
theorem same_oneF (m m' : Bool) (t : PSt) : SameR (oneF m E P d t) (oneF m' E P' d t) := by
  unfold oneF
  split
  · exact same_notF h (d + 1) m m' _
  split
  · exact same_roundF h d t
  · exact same_cmpF h d t
end
theorem same_listL {E : Int} {sg : List UInt8} {F F' : PSt → ExprT × PSt} (h : ∀ t, SameR (F t) (F' t)) : ∀ (f : Nat) (t : PSt), SameR (listL E sg F f t) (listL E sg F' f t)
  | 0, _ => .refl _
  | f + 1, t => by
    rw [listL, listL]
    split
    · exact SameR.seq (fun x l => x :: l) (h (nextS E t)) (fun s => same_listL h f s) (fun s hs => by rw [listL_bad f hs])
    · exact .refl _
theorem same_listF {E : Int} {sg : List UInt8} {k : Int} {F F' : PSt → ExprT × PSt} (h : ∀ t, SameR (F t) (F' t)) (t : PSt) : SameR (listF E sg k F t) (listF E sg k F' t) := by
  unfold listF
  exact SameR.seq (joinE k) (h t) (b := fun s => listL E sg F s.toks.length s) (b' := fun s => listL E sg F' s.toks.length s) (fun s => same_listL h _ s) (fun s hs => by rw [listL_bad _ hs])
theorem same_orF {E : Int} {P P' : Nat → PSt → ExprT × PSt} (h : Eqp P P') (m m' : Bool) : Eqp (orF m E P) (orF m' E P') := fun d t => same_listF (fun t => same_listF (fun t => same_oneF h d m m' t) t) t
theorem same_orS (m m' : Bool) (E : Int) : ∀ n, Eqp (orS m E n) (orS m' E n)
  | 0 => fun _ _ => .refl _
  | n + 1 => same_orF (same_orS m m' E n) m m'
theorem same_parse2 (m m' : Bool) (E : Int) (t : PSt) : parse2 m E t = parse2 m' E t := by
  obtain ⟨e1, e2⟩ := same_pathF (E := E) (same_orS m m' E 34) 0 (if isS [36] t then t else formS E t)
  have f1 : (parse1 m E t).2 = (parse1 m' E t).2 := e1
  have f2 : (parse1 m E t).2.fe = 0 → (parse1 m E t).1 = (parse1 m' E t).1 := e2
  unfold parse2
  rw [← f1]
  by_cases h0 : (parse1 m E t).2.fe = 0
  · rw [f2 h0]
  · have hov : ovS (parse1 m E t).2 = true := by unfold ovS; rw [bne_iff_ne.2 h0]; rfl
    rw [if_pos hov, if_neg h0, if_neg h0]
/-- The document's query is the program's. -/
theorem parse_same (l : List UInt8) : parseT true l = parseT false l := same_parse2 true false _ _

end Go.Proofs.YtmopeandckmgcaaGreatDoor
