/- Queries read, plain: a comma and a bracket behind it are never read through (no word of a dump). -/
import Derived.Test.YtmopeandckmgcaaDoorQp
namespace Go.Proofs.YtmopeandckmgcaaDoor

/-- At the end stand a comma and a bracket. -/
def Tl (t : PSt) : Prop := ∃ u c b, t.toks = u ++ [c, b] ∧ c.kind = 1 ∧ c.s = [44] ∧ b.kind = 1 ∧ b.s = [93]
/-- Where there is no fault they still do. -/
def ShR {α : Type} (a : α × PSt) : Prop := a.2.fe = 0 → Tl a.2
section
variable {E : Int} {t : PSt}
theorem Tl.next (h : Tl t) (hc : isS [44] t = false) : (nextS E t).fe = 0 → Tl (nextS E t) := fun hf => by
  obtain ⟨u, c, b, e, c1, c2, b1, b2⟩ := h
  have hf0 : t.fe = 0 := Classical.byContradiction fun h0 => by rw [nextS_bad h0] at hf; exact h0 hf
  obtain ⟨toks, fe, fa⟩ := t
  simp only at e hf0
  subst e
  cases u with
  | nil =>
    unfold isS kindS hdT at hc
    rw [if_pos hf0] at hc
    simp [c1, c2] at hc
  | cons y u =>
    refine ⟨u, c, b, ?_, c1, c2, b1, b2⟩
    unfold nextS
    rw [if_pos hf0]
    rfl
theorem Tl.fail (h : Tl t) (a e : Int) : Tl (failS a e t) := by
  obtain ⟨u, c, b, e', h⟩ := h
  exact ⟨u, c, b, by rw [failS_len]; exact e', h⟩
theorem is_other {l : List UInt8} (h : isS l t = true) (hl : l ≠ [44]) : isS [44] t = false := by
  unfold isS at h ⊢
  rw [Bool.and_eq_true, beq_iff_eq] at h
  rw [h.2, h.1, Bool.true_and, beq_eq_false_iff_ne]
  exact hl
theorem kind_other {k : Int} (h : kindS t = k) (hk : k ≠ 1) : isS [44] t = false := by
  unfold isS
  rw [h, decide_eq_false hk]
  rfl
theorem Tl.must (h : Tl t) {l : List UInt8} (hl : l ≠ [44]) : (mustS E l t).fe = 0 → Tl (mustS E l t) := by
  unfold mustS
  split
  · rename_i hs
    exact h.next (is_other hs hl)
  · exact fun hf => absurd hf (formS_fe E t)
theorem Tl.open (h : Tl t) (d : Nat) {l : List UInt8} (hs : isS l t = true) (hl : l ≠ [44]) : (openS E d t).fe = 0 → Tl (openS E d t) := by
  unfold openS
  split
  · intro hf
    have h1 : (failS (atS E t) 5 t).fe ≠ 0 := by
      unfold failS; split
      · simp
      · assumption
    rw [nextS_bad h1] at hf
    exact absurd hf h1
  · exact h.next (is_other hs hl)
theorem Tl.close (h : Tl t) : (closeS E t).fe = 0 → Tl (closeS E t) := by
  unfold closeS
  split
  · exact fun hf => absurd hf (formS_fe E t)
  · exact fun _ => h
theorem Tl.num (h : Tl t) : (numS E t).2.2.fe = 0 → Tl (numS E t).2.2 := by
  unfold numS
  split
  · rename_i hk
    exact h.next (kind_other hk (by decide))
  · exact fun _ => h
theorem numS_back (h : (numS E t).2.2.fe = 0) : t.fe = 0 := Classical.byContradiction fun hf => by rw [numS_bad hf] at h; exact hf h
theorem nextS_back (h : (nextS E t).fe = 0) : t.fe = 0 := Classical.byContradiction fun hf => by rw [nextS_bad hf] at h; exact hf h
end
theorem ShR.map {α β : Type} {a : α × PSt} (h : ShR a) (g : α → β) : ShR (g a.1, a.2) := h
theorem ShR.bad {α : Type} {a : α × PSt} (h : a.2.fe ≠ 0) : ShR a := fun e => absurd e h
theorem ShR.seq {α β γ : Type} {a : α × PSt} {b : PSt → β × PSt} (h : ShR a) (g : α → β → γ) (h2 : ∀ s, Tl s → ShR (b s)) (hb : ∀ s, s.fe ≠ 0 → (b s).2 = s) : ShR (g a.1 (b a.2).1, (b a.2).2) := fun e => by
  have hf : a.2.fe = 0 := Classical.byContradiction fun hf => by simp only at e; rw [hb _ hf] at e; exact hf e
  exact h2 _ (h hf) e
def ShP (P : Nat → PSt → ExprT × PSt) : Prop := ∀ d t, Tl t → ShR (P d t)
section
variable {E : Int} {P : Nat → PSt → ExprT × PSt} (d : Nat)
theorem sh_num2S (n : Int) (ok : Bool) {t : PSt} (h : Tl t) : ShR (num2S E n ok t) := by
  unfold num2S
  split
  · rename_i h58
    intro e
    simp only at e ⊢
    have e2 := numS_back e
    have e1 := nextS_back e2
    exact ((h.num e1).next (is_other h58 (by decide)) e2).num e
  · exact fun e => h.num e
theorem sh_numbersS {t : PSt} (h : Tl t) : ShR (numbersS E t) := by
  unfold numbersS
  split
  · rename_i h58
    intro e
    have e2 : (nextS E (numS E t).2.2).fe = 0 := Classical.byContradiction fun hf => by
      unfold num2S at e
      rw [isS_bad _ (by rw [numS_bad hf]; exact hf), if_neg (by decide)] at e
      simp only at e
      rw [numS_bad hf] at e
      exact hf e
    have e1 := nextS_back e2
    exact sh_num2S _ _ ((h.num e1).next (is_other h58 (by decide)) e2) e
  · exact fun e => h.num e
variable (hP : ShP P) (hB : BadP P)
include hP hB
theorem sh_selF {t : PSt} (h : Tl t) : ShR (selF E P d t) := by
  unfold selF
  split
  · rename_i hk
    exact fun e => h.next (kind_other hk (by decide)) e
  split
  · rename_i hs
    exact fun e => h.next (is_other hs (by decide)) e
  split
  · rename_i hs
    intro e
    have hf : (openS E d t).fe = 0 := Classical.byContradiction fun hf => by simp only at e; rw [hB _ _ hf] at e; exact hf e
    exact hP (d + 1) _ (h.open d hs (by decide) hf) e
  split
  · exact sh_numbersS h
  · exact .bad (formS_fe E t)
theorem sh_selsL : ∀ (f : Nat) {t : PSt}, Tl t → ShR (selsL E P d f t)
  | 0, _, h => fun _ => h
  | f + 1, t, h => by
    rw [selsL]
    split
    · rename_i h44
      have h0 := h
      obtain ⟨u, c, b, e, c1, c2, b1, b2⟩ := h0
      obtain ⟨toks, fe, fa⟩ := t
      simp only at e
      subst e
      have hf := (isS_ok h44).1
      simp only at hf
      subst hf
      cases u with
      | nil =>
        refine .bad ?_
        simp only
        have hn : nextS E ⟨[] ++ [c, b], 0, fa⟩ = ⟨[b], 0, fa⟩ := rfl
        rw [hn]
        have hk : kindS ⟨[b], 0, fa⟩ = 1 := b1
        have k : ∀ l, l ≠ [93] → isS l ⟨[b], 0, fa⟩ = false := fun l hl => by
          unfold isS
          rw [show (hdT ⟨[b], 0, fa⟩).s = [93] from b2, Bool.and_eq_false_iff]
          exact .inr (beq_eq_false_iff_ne.2 fun e => hl e.symm)
        have hsel : selF E P d ⟨[b], 0, fa⟩ = (sel0, formS E ⟨[b], 0, fa⟩) := by
          unfold selF
          rw [hk, k _ (by decide), k _ (by decide), k _ (by decide)]
          rfl
        rw [hsel]
        simp only
        rw [selsL_bad _ (formS_fe E _)]
        exact formS_fe E _
      | cons y u =>
        have hn : Tl (nextS E ⟨y :: u ++ [c, b], 0, fa⟩) := ⟨u, c, b, rfl, c1, c2, b1, b2⟩
        exact ShR.seq (sh_selF d hP hB hn) (fun x l => x :: l) (b := fun s => selsL E P d f s) (fun s hs => sh_selsL f hs) (fun s hs => by rw [selsL_bad _ hs])
    · exact fun _ => h
theorem sh_selsF {t : PSt} (h : Tl t) : ShR (selsF E P d t) := by
  unfold selsF
  intro e
  simp only at e ⊢
  obtain ⟨r, hr⟩ : ∃ r, selF E P d (mustS E [91] t) = r := ⟨_, rfl⟩
  rw [hr] at e ⊢
  obtain ⟨q, hq⟩ : ∃ q, selsL E P d r.2.toks.length r.2 = q := ⟨_, rfl⟩
  rw [hq] at e ⊢
  have e3 : q.2.fe = 0 := Classical.byContradiction fun hf => by rw [must_bad _ hf] at e; exact hf e
  have e2 : r.2.fe = 0 := Classical.byContradiction fun hf => by rw [selsL_bad _ hf] at hq; rw [← hq] at e3; exact hf e3
  have e1 : (mustS E [91] t).fe = 0 := Classical.byContradiction fun hf => by rw [selF_bd hf] at hr; rw [← hr] at e2; exact hf e2
  have h1 := h.must (E := E) (by decide) e1
  have h2 := sh_selF d hP hB h1 (by rw [hr]; exact e2)
  rw [hr] at h2
  have h3 := sh_selsL d hP hB r.2.toks.length h2 (by rw [hq]; exact e3)
  rw [hq] at h3
  exact h3.must (by decide) e
theorem sh_dotF (dp : Bool) {t : PSt} (h : Tl t) : ShR (dotF E P d dp t) := by
  unfold dotF
  split
  · exact (sh_selsF d hP hB h).map fun l => (⟨dp, l⟩ : SegT)
  split
  · rename_i hs
    exact fun e => h.next (is_other hs (by decide)) e
  split
  · rename_i hk
    exact fun e => h.next (kind_other hk (by decide)) e
  · exact .bad (formS_fe E t)
theorem sh_segF {t : PSt} (h : Tl t) (hs : isSeg t = true) : ShR (segF E P d t) := by
  unfold segF
  split
  · exact (sh_selsF d hP hB h).map fun l => (⟨false, l⟩ : SegT)
  · intro e
    have e1 : (closeS E (nextS E t)).fe = 0 := Classical.byContradiction fun hf => by rw [dotF_bad _ hf] at e; exact hf e
    have e0 : (nextS E t).fe = 0 := Classical.byContradiction fun hf => by rw [closeS_bad hf] at e1; exact hf e1
    have hn : isS [44] t = false := by
      unfold isSeg at hs
      rw [Bool.or_eq_true, Bool.or_eq_true] at hs
      rcases hs with (hs | hs) | hs <;> exact is_other hs (by decide)
    exact sh_dotF d hP hB _ ((h.next hn e0).close e1) e
theorem sh_segsL : ∀ (f : Nat) {t : PSt}, Tl t → ShR (segsL E P d f t)
  | 0, _, h => fun _ => h
  | f + 1, t, h => by
    rw [segsL]
    split
    · rename_i hs
      exact ShR.seq (sh_segF d hP hB h hs) (fun x l => x :: l) (b := fun s => segsL E P d f s) (fun s hs => sh_segsL f hs) (fun s hs => by rw [segsL_bad _ hs])
    · exact fun _ => h
theorem sh_pathF {t : PSt} (h : Tl t) (hp : isS [44] t = false) : ShR (pathF E P d t) := by
  unfold pathF
  intro e
  simp only at e
  have e0 : (nextS E t).fe = 0 := Classical.byContradiction fun hf => by rw [segsL_bad _ hf] at e; exact hf e
  exact sh_segsL d hP hB _ (h.next hp e0) e
omit hP hB in
theorem path_other {t : PSt} (h : isPath t = true) : isS [44] t = false := by
  unfold isPath at h
  rw [Bool.or_eq_true] at h
  rcases h with h | h <;> exact is_other h (by decide)
theorem sh_sideF {t : PSt} (h : Tl t) : ShR (sideF E P d t) := by
  unfold sideF
  split
  · rename_i hp
    exact (sh_pathF d hP hB h (path_other hp)).map fun p => (⟨false, 0, 0, [], p⟩ : SideT)
  · cases hl : litS t with
    | none => exact .bad (formS_fe E t)
    | some x =>
      have hn : isS [44] t = false := by
        cases hh : isS [44] t with
        | false => rfl
        | true =>
          have hk : kindS t = 1 := by
            unfold isS at hh
            rw [Bool.and_eq_true, decide_eq_true_eq] at hh
            exact hh.1
          unfold litS at hl
          rw [hk] at hl
          simp at hl
      exact fun e => h.next hn e
omit hP hB in
theorem op_other {t : PSt} (h : ¬ opS t < 0) : isS [44] t = false := by
  cases hh : isS [44] t with
  | false => rfl
  | true =>
    exfalso
    apply h
    unfold isS at hh
    rw [Bool.and_eq_true, decide_eq_true_eq, beq_iff_eq] at hh
    unfold opS
    rw [if_pos hh.1, hh.2]
    decide
theorem sh_cmp2 (a : SideT) {t : PSt} (h : Tl t) : ShR (cmp2 E P d a t) := by
  unfold cmp2
  split
  · intro e
    simp only at e ⊢
    cases ha : a.lit with
    | true => rw [ha] at e; exact absurd e (formS_fe E t)
    | false => exact h
  · rename_i hc
    intro e
    simp only at e ⊢
    have k : ∀ (b : Bool) (s : PSt) (a : Int), (if b = true then failS a 8 s else s).fe = 0 → s.fe = 0 ∧ (if b = true then failS a 8 s else s) = s := fun b s a hs => by
      cases b
      · exact ⟨hs, rfl⟩
      · exfalso
        rw [if_pos rfl] at hs
        unfold failS at hs
        split at hs
        · simp at hs
        · rename_i h0; exact h0 hs
    obtain ⟨e1, e2⟩ := k _ _ _ e
    rw [e2]
    have e0 : (nextS E t).fe = 0 := Classical.byContradiction fun hf => by rw [sideF_bad hf] at e1; exact hf e1
    exact sh_sideF d hP hB (h.next (op_other hc) e0) e1
theorem sh_cmpF {t : PSt} (h : Tl t) : ShR (cmpF E P d t) := by
  unfold cmpF
  intro e
  have e1 : (sideF E P d t).2.fe = 0 := Classical.byContradiction fun hf => by rw [cmp2_bad _ hf] at e; exact hf e
  exact sh_cmp2 d hP hB _ (sh_sideF d hP hB h e1) e
theorem sh_roundF {t : PSt} (h : Tl t) (hs : isS [40] t = true) : ShR (roundF E P d t) := by
  unfold roundF
  intro e
  simp only at e ⊢
  have e2 : (P (d + 1) (openS E d t)).2.fe = 0 := Classical.byContradiction fun hf => by rw [must_bad _ hf] at e; exact hf e
  have e1 : (openS E d t).fe = 0 := Classical.byContradiction fun hf => by rw [hB _ _ hf] at e2; exact hf e2
  exact (hP _ _ (h.open d hs (by decide) e1) e2).must (by decide) e
theorem sh_notF (m : Bool) {t : PSt} (h : Tl t) : ShR (notF m E P d t) := by
  unfold notF
  split
  · rename_i hs
    exact (sh_roundF d hP hB h hs).map fun x => mkE 2 [x]
  split
  · rename_i hp
    exact (sh_pathF d hP hB h (path_other hp)).map fun p => mkE 2 [tstE p]
  · exact .bad (formS_fe E t)
theorem sh_oneF (m : Bool) {t : PSt} (h : Tl t) : ShR (oneF m E P d t) := by
  unfold oneF
  split
  · rename_i hs
    intro e
    have e1 : (openS E d t).fe = 0 := Classical.byContradiction fun hf => by rw [notF_bad m hf] at e; exact hf e
    exact sh_notF (d + 1) hP hB m (h.open d hs (by decide) e1) e
  split
  · rename_i hs
    exact sh_roundF d hP hB h hs
  · exact sh_cmpF d hP hB h
end
theorem sh_listL {E : Int} {sg : List UInt8} (hsg : sg ≠ [44]) {F : PSt → ExprT × PSt} (hB : ∀ t, t.fe ≠ 0 → (F t).2 = t) (h : ∀ t, Tl t → ShR (F t)) : ∀ (f : Nat) {t : PSt}, Tl t → ShR (listL E sg F f t)
  | 0, _, ht => fun _ => ht
  | f + 1, t, ht => by
    rw [listL]
    split
    · rename_i hs
      intro e
      have e2 : (F (nextS E t)).2.fe = 0 := Classical.byContradiction fun hf => by simp only at e; rw [listL_bad _ hf] at e; exact hf e
      have e1 : (nextS E t).fe = 0 := Classical.byContradiction fun hf => by rw [hB _ hf] at e2; exact hf e2
      exact sh_listL hsg hB h f (h _ (ht.next (is_other hs hsg) e1) e2) e
    · exact fun _ => ht
theorem sh_listF {E : Int} {sg : List UInt8} {k : Int} (hsg : sg ≠ [44]) {F : PSt → ExprT × PSt} (hB : ∀ t, t.fe ≠ 0 → (F t).2 = t) (h : ∀ t, Tl t → ShR (F t)) {t : PSt} (ht : Tl t) : ShR (listF E sg k F t) :=
  ShR.seq (h t ht) (joinE k) (b := fun s => listL E sg F s.toks.length s) (fun s hs => sh_listL hsg hB h _ hs) (fun s hs => by rw [listL_bad _ hs])
theorem sh_orF {E : Int} {P : Nat → PSt → ExprT × PSt} (hP : ShP P) (hB : BadP P) (m : Bool) : ShP (orF m E P) := fun d _ h =>
  sh_listF (by decide) (fun t h => andF_bad m t h) (fun _ h => sh_listF (by decide) (fun _ h => oneF_bad m h) (fun _ h => sh_oneF d hP hB m h) h) h
theorem sh_orS (m : Bool) (E : Int) : ∀ n, ShP (orS m E n)
  | 0 => fun _ _ h _ => h
  | n + 1 => sh_orF (sh_orS m E n) (orS_bad m E n) m
theorem ite_tt' {α : Type} {c : Bool} {a b : α} (h : c = true) : (if c = true then a else b) = a := if_pos h
theorem ite_ff' {α : Type} {c : Bool} {a b : α} (h : c = false) : (if c = true then a else b) = b := if_neg (by rw [h]; decide)
/-- A text that ends so is no query. -/
theorem sh_parse2 (m : Bool) (E : Int) {t : PSt} (h : Tl t) (p : PathT) : parse2 m E t ≠ .ok p := by
  intro e
  unfold parse2 at e
  cases ho : ovS (parse1 m E t).2 with
  | false =>
    rw [ite_ff' ho, if_neg (formS_fe E _)] at e
    cases e
  | true =>
    rw [ite_tt' ho] at e
    by_cases hf : (parse1 m E t).2.fe = 0
    · have hs : isS [36] t = true := by
        cases hh : isS [36] t with
        | true => rfl
        | false =>
          exfalso
          unfold parse1 at hf
          rw [hh, if_neg (by decide), pathF_bad (formS_fe E t)] at hf
          exact formS_fe E t hf
      have hk : Tl (parse1 m E t).2 := by
        unfold parse1 at hf ⊢
        rw [hs, if_pos rfl] at hf ⊢
        exact sh_pathF 0 (sh_orS m E 34) (orS_bad m E 34) h (is_other hs (by decide)) hf
      obtain ⟨u, c, b, e', _⟩ := hk
      unfold ovS at ho
      rw [hf, e'] at ho
      simp at ho
    · rw [if_neg hf] at e
      cases e

end Go.Proofs.YtmopeandckmgcaaDoor
