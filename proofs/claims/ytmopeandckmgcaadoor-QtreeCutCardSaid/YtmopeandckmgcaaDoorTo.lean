/- Queries read, plain: more tokens behind change nothing of what is read ahead of them (no word of a dump). -/
import Derived.Test.YtmopeandckmgcaaDoorQp
namespace Go.Proofs.YtmopeandckmgcaaDoor

/-- More tokens behind. -/
def appS (t : PSt) (xs : List TokD) : PSt := ⟨t.toks ++ xs, t.fe, t.fa⟩
/-- The same is read, where something is left. -/
def Ext {α : Type} (xs : List TokD) (a b : α × PSt) : Prop := a.2.fe = 0 → a.2.toks ≠ [] → b = (a.1, appS a.2 xs)
section
variable {E E' : Int} {t : PSt} {xs : List TokD}
theorem hdT_app (h : t.toks ≠ []) : hdT (appS t xs) = hdT t := by
  obtain ⟨toks, fe, fa⟩ := t
  cases toks with
  | nil => exact absurd rfl h
  | cons x r => rfl
theorem isS_app (l : List UInt8) (h : t.toks ≠ []) : isS l (appS t xs) = isS l t := by unfold isS kindS; rw [hdT_app h]
theorem kindS_app (h : t.toks ≠ []) : kindS (appS t xs) = kindS t := by unfold kindS; rw [hdT_app h]
theorem ovS_app (h : t.toks ≠ []) : ovS (appS t xs) = ovS t := by
  obtain ⟨toks, fe, fa⟩ := t
  cases toks with
  | nil => exact absurd rfl h
  | cons x r => rfl
theorem atS_app (h : t.toks ≠ []) : atS E' (appS t xs) = atS E t := by
  obtain ⟨toks, fe, fa⟩ := t
  cases toks with
  | nil => exact absurd rfl h
  | cons x r => rfl
theorem failS_app (a e : Int) : failS a e (appS t xs) = appS (failS a e t) xs := by
  unfold failS
  by_cases h : t.fe = 0
  · rw [if_pos h, if_pos (show (appS t xs).fe = 0 from h)]; rfl
  · rw [if_neg h, if_neg (show ¬ (appS t xs).fe = 0 from h)]
theorem formS_app (h : t.toks ≠ []) : formS E' (appS t xs) = appS (formS E t) xs := by unfold formS; rw [atS_app (E := E) h, failS_app]
theorem nextS_app (h : t.toks ≠ []) : nextS E' (appS t xs) = appS (nextS E t) xs := by
  obtain ⟨toks, fe, fa⟩ := t
  cases toks with
  | nil => exact absurd rfl h
  | cons x r =>
    unfold nextS
    by_cases hf : fe = 0
    · rw [if_pos (show (appS ⟨x :: r, fe, fa⟩ xs).fe = 0 from hf), if_pos (show (⟨x :: r, fe, fa⟩ : PSt).fe = 0 from hf)]; rfl
    · rw [if_neg (show ¬ (appS ⟨x :: r, fe, fa⟩ xs).fe = 0 from hf), if_neg (show ¬ (⟨x :: r, fe, fa⟩ : PSt).fe = 0 from hf)]
theorem openS_app (d : Nat) (h : t.toks ≠ []) : openS E' d (appS t xs) = appS (openS E d t) xs := by
  unfold openS
  split
  · rw [atS_app (E := E) h, failS_app, nextS_app (E := E) (by rw [failS_len]; exact h)]
  · exact nextS_app h
theorem closeS_app (h : t.toks ≠ []) : closeS E' (appS t xs) = appS (closeS E t) xs := by
  unfold closeS
  rw [ovS_app h, hdT_app h]
  split
  · exact formS_app h
  · rfl
theorem numS_app (h : t.toks ≠ []) : numS E' (appS t xs) = ((numS E t).1, (numS E t).2.1, appS (numS E t).2.2 xs) := by
  unfold numS
  rw [kindS_app h, hdT_app h, nextS_app (E := E) h]
  split <;> rfl
theorem isSeg_app (h : t.toks ≠ []) : isSeg (appS t xs) = isSeg t := by unfold isSeg; rw [isS_app _ h, isS_app _ h, isS_app _ h]
theorem isPath_app (h : t.toks ≠ []) : isPath (appS t xs) = isPath t := by unfold isPath; rw [isS_app _ h, isS_app _ h]
theorem litS_app (h : t.toks ≠ []) : litS (appS t xs) = litS t := by unfold litS; rw [kindS_app h, hdT_app h]
theorem opS_app (h : t.toks ≠ []) : opS (appS t xs) = opS t := by unfold opS; rw [kindS_app h, hdT_app h]
theorem is_ne {l : List UInt8} (h : isS l t = true) : t.toks ≠ [] := by obtain ⟨_, x, r, e, _⟩ := isS_ok h; rw [e]; simp
theorem ne_of_le {s t : PSt} (h : s.toks ≠ []) (hl : s.toks.length ≤ t.toks.length) : t.toks ≠ [] := fun e => by
  rw [e] at hl
  exact h (List.eq_nil_of_length_eq_zero (by simpa using hl))
end
section
variable {α β γ : Type} {xs : List TokD} {a a' : α × PSt}
theorem Ext.map (h : Ext xs a a') (g : α → β) : Ext xs (g a.1, a.2) (g a'.1, a'.2) := fun h1 h2 => by rw [h h1 h2]
theorem Ext.bad {b : α × PSt} (h : a.2.fe ≠ 0) : Ext xs a b := fun h1 _ => absurd h1 h
theorem Ext.empty {b : α × PSt} (h : a.2.toks = []) : Ext xs a b := fun _ h2 => absurd h h2
theorem Ext.nil {t : PSt} {b : α × PSt} (h : t.toks = []) (hl : a.2.toks.length ≤ t.toks.length) : Ext xs a b := .empty (List.eq_nil_of_length_eq_zero (by rw [h] at hl; simpa using hl))
theorem Ext.post (h : Ext xs a a') {u u' : PSt → PSt} (hb : ∀ s, s.fe ≠ 0 → u s = s) (hl : ∀ s, (u s).toks.length ≤ s.toks.length) (hu : ∀ s, s.toks ≠ [] → u' (appS s xs) = appS (u s) xs) : Ext xs (a.1, u a.2) (a'.1, u' a'.2) := fun h1 h2 => by
  have hf : a.2.fe = 0 := Classical.byContradiction fun hf => by simp only at h1; rw [hb _ hf] at h1; exact hf h1
  have hn : a.2.toks ≠ [] := ne_of_le h2 (hl _)
  rw [h hf hn]
  simp only
  rw [hu _ hn]
theorem Ext.seq (h : Ext xs a a') {b b' : PSt → β × PSt} (g : α → β → γ) (h2 : ∀ s, s.toks.length ≤ a.2.toks.length → Ext xs (b s) (b' (appS s xs))) (hb : ∀ s, s.fe ≠ 0 → (b s).2 = s) (hl : ∀ s, (b s).2.toks.length ≤ s.toks.length) :
    Ext xs (g a.1 (b a.2).1, (b a.2).2) (g a'.1 (b' a'.2).1, (b' a'.2).2) := fun k1 k2 => by
  have hf : a.2.fe = 0 := Classical.byContradiction fun hf => by simp only at k1; rw [hb _ hf] at k1; exact hf k1
  have hn : a.2.toks ≠ [] := ne_of_le k2 (hl _)
  rw [h hf hn]
  simp only
  rw [h2 a.2 (Nat.le_refl _) k1 k2]
end
/-- Two readers of expressions. -/
def ExtP (xs : List TokD) (P P' : Nat → PSt → ExprT × PSt) : Prop := ∀ d t, Ext xs (P d t) (P' d (appS t xs))
section
variable {E E' : Int} {xs : List TokD} {P P' : Nat → PSt → ExprT × PSt} (d : Nat)
theorem ext_num2S (n : Int) (ok : Bool) (t : PSt) : Ext xs (num2S E n ok t) (num2S E' n ok (appS t xs)) := by
  by_cases ht : t.toks = []
  · exact .nil ht (num2S_le n ok t)
  intro h1 h2
  have e1 := numS_app (E := E) (E' := E') (xs := xs) ht
  have hs1 : (numS E t).2.2.toks ≠ [] := by
    refine ne_of_le h2 ?_
    unfold num2S
    split
    · have k2 := numS_le E (nextS E (numS E t).2.2)
      have k3 := nextS_le E (numS E t).2.2
      simp only; omega
    · exact Nat.le_refl _
  unfold num2S at h1 h2 ⊢
  rw [e1]
  simp only
  rw [isS_app _ hs1]
  split
  · rename_i h58
    rw [if_pos h58] at h1 h2
    simp only at h2
    have hs2 : (nextS E (numS E t).2.2).toks ≠ [] := ne_of_le h2 (numS_le E _)
    rw [nextS_app (E := E) hs1, numS_app (E := E) hs2]
  · rfl
theorem ext_numbersS (t : PSt) : Ext xs (numbersS E t) (numbersS E' (appS t xs)) := by
  by_cases ht : t.toks = []
  · exact .nil ht (numbersS_le t)
  intro h1 h2
  have e1 := numS_app (E := E) (E' := E') (xs := xs) ht
  have hs1 : (numS E t).2.2.toks ≠ [] := by
    refine ne_of_le h2 ?_
    unfold numbersS
    split
    · have k2 := num2S_le (E := E) (numS E t).1 (numS E t).2.1 (nextS E (numS E t).2.2)
      have k3 := nextS_le E (numS E t).2.2
      omega
    · exact Nat.le_refl _
  unfold numbersS at h1 h2 ⊢
  rw [e1]
  simp only
  rw [isS_app _ hs1]
  split
  · rename_i h58
    rw [if_pos h58] at h1 h2
    rw [nextS_app (E := E) hs1]
    exact ext_num2S _ _ _ h1 h2
  · rfl
theorem mustS_app {l : List UInt8} {t : PSt} (h : t.toks ≠ []) : mustS E' l (appS t xs) = appS (mustS E l t) xs := by
  unfold mustS
  rw [isS_app _ h]
  split
  · exact nextS_app h
  · exact formS_app h
variable (hL : LeP P) (h : ExtP xs P P')
include h hL
theorem ext_selF (t : PSt) : Ext xs (selF E P d t) (selF E' P' d (appS t xs)) := by
  by_cases ht : t.toks = []
  · exact .nil ht (selF_le hL d t)
  unfold selF
  rw [kindS_app ht, isS_app _ ht, isS_app _ ht, isS_app _ ht, hdT_app ht, nextS_app (E := E) ht, openS_app (E := E) d ht]
  split
  · exact fun _ _ => rfl
  split
  · exact fun _ _ => rfl
  split
  · exact (h (d + 1) (openS E d t)).map fun x => (⟨4, [], 0, 0, 0, 0, false, false, some x⟩ : SelT)
  split
  · exact ext_numbersS t
  · exact .bad (formS_fe E t)
theorem ext_selsL : ∀ (f f' : Nat) (t : PSt), t.toks.length ≤ f → f ≤ f' → Ext xs (selsL E P d f t) (selsL E' P' d f' (appS t xs))
  | 0, _, t, hf, _ => .nil (t := t) (List.eq_nil_of_length_eq_zero (by omega)) (Nat.le_refl _)
  | f + 1, f', t, hf, hff => by
    by_cases ht : t.toks = []
    · exact .nil ht (selsL_le hL d _ t)
    obtain ⟨f'', rfl⟩ : ∃ f'', f' = f'' + 1 := ⟨f' - 1, by omega⟩
    rw [selsL, selsL, isS_app _ ht]
    split
    · rename_i h44
      rw [nextS_app (E := E) ht]
      have hlt := is_lt (E := E) h44
      have hle := selF_le hL d (E := E) (nextS E t)
      exact Ext.seq (ext_selF d hL h (nextS E t)) (fun x l => x :: l) (b := fun s => selsL E P d f s) (b' := fun s => selsL E' P' d f'' s) (fun s hs => ext_selsL f f'' s (by omega) (by omega)) (fun s hs => by rw [selsL_bad _ hs]) (fun s => selsL_le hL d f s)
    · exact fun _ _ => rfl
/-- In brackets: whatever is left. -/
theorem ext_selsF (t : PSt) (h1 : (selsF E P d t).2.fe = 0) : selsF E' P' d (appS t xs) = ((selsF E P d t).1, appS (selsF E P d t).2 xs) := by
  unfold selsF at h1 ⊢
  simp only at h1 ⊢
  -- the state ahead of the last bracket
  obtain ⟨s3, hs3⟩ : ∃ s3, (selsL E P d (selF E P d (mustS E [91] t)).2.toks.length (selF E P d (mustS E [91] t)).2) = s3 := ⟨_, rfl⟩
  rw [hs3] at h1 ⊢
  have h93 : isS [93] s3.2 = true := by
    cases hh : isS [93] s3.2 with
    | true => rfl
    | false =>
      unfold mustS at h1
      rw [if_neg (by rw [hh]; decide)] at h1
      exact absurd h1 (formS_fe E _)
  have hne := is_ne h93
  have hf3 := (isS_ok h93).1
  have hl3 := selsL_le hL d (E := E) (selF E P d (mustS E [91] t)).2.toks.length (selF E P d (mustS E [91] t)).2
  rw [hs3] at hl3
  have hn2 := ne_of_le hne hl3
  have hl2 := selF_le hL d (E := E) (mustS E [91] t)
  have hn1 := ne_of_le hn2 hl2
  have hn0 := ne_of_le hn1 (mustS_le E [91] t)
  have hf2 : (selF E P d (mustS E [91] t)).2.fe = 0 := Classical.byContradiction fun hf => by
    rw [selsL_bad _ hf] at hs3; rw [← hs3] at hf3; exact hf hf3
  rw [mustS_app (E := E) hn0, ext_selF d hL h (E' := E') (mustS E [91] t) hf2 hn2]
  simp only
  have e3 := ext_selsL d hL h (E := E) (E' := E') (selF E P d (mustS E [91] t)).2.toks.length ((appS (selF E P d (mustS E [91] t)).2 xs).toks.length) (selF E P d (mustS E [91] t)).2 (Nat.le_refl _) (by unfold appS; simp)
  rw [hs3] at e3
  rw [e3 hf3 hne, mustS_app (E := E) hne]
theorem ext_dotF (dp : Bool) (t : PSt) (h1 : (dotF E P d dp t).2.fe = 0) : dotF E' P' d dp (appS t xs) = ((dotF E P d dp t).1, appS (dotF E P d dp t).2 xs) := by
  have ht : t.toks ≠ [] := fun ht => by
    have k : ∀ l, isS l t = false := fun l => by
      cases hh : isS l t with
      | false => rfl
      | true => exact absurd ht (is_ne hh)
    unfold dotF at h1
    have hk : kindS t = 0 := by unfold kindS hdT; rw [ht]; simp [tok0]
    rw [k, k, hk, Bool.and_false] at h1
    exact absurd h1 (formS_fe E t)
  unfold dotF at h1 ⊢
  rw [isS_app _ ht, isS_app _ ht, kindS_app ht, hdT_app ht, nextS_app (E := E) ht]
  split
  · rename_i hc
    rw [if_pos hc] at h1
    rw [ext_selsF d hL h t h1]
  rename_i hc
  rw [if_neg hc] at h1
  split
  · rfl
  rename_i hc2
  rw [if_neg hc2] at h1
  split
  · rfl
  rename_i hc3
  rw [if_neg hc3] at h1
  exact absurd h1 (formS_fe E t)
theorem ext_segF (t : PSt) (ht : t.toks ≠ []) (h1 : (segF E P d t).2.fe = 0) : segF E' P' d (appS t xs) = ((segF E P d t).1, appS (segF E P d t).2 xs) := by
  unfold segF at h1 ⊢
  rw [isS_app _ ht, isS_app _ ht, nextS_app (E := E) ht]
  split
  · rename_i hc
    rw [if_pos hc] at h1
    rw [ext_selsF d hL h t h1]
  rename_i hc
  rw [if_neg hc] at h1
  have hn : (nextS E t).toks ≠ [] := fun hn => by
    have hcl : (closeS E (nextS E t)).toks = [] := List.eq_nil_of_length_eq_zero (by have := closeS_le E (nextS E t); rw [hn] at this; simpa using this)
    have k : ∀ l, isS l (closeS E (nextS E t)) = false := fun l => by
      cases hh : isS l (closeS E (nextS E t)) with
      | false => rfl
      | true => exact absurd hcl (is_ne hh)
    unfold dotF at h1
    have hk : kindS (closeS E (nextS E t)) = 0 := by unfold kindS hdT; rw [hcl]; simp [tok0]
    rw [k, k, hk, Bool.and_false] at h1
    exact absurd h1 (formS_fe E _)
  rw [closeS_app (E := E) hn]
  exact ext_dotF d hL h _ _ h1
theorem ext_segsL : ∀ (f f' : Nat) (t : PSt), t.toks.length ≤ f → f ≤ f' → Ext xs (segsL E P d f t) (segsL E' P' d f' (appS t xs))
  | 0, _, t, hf, _ => .nil (t := t) (List.eq_nil_of_length_eq_zero (by omega)) (Nat.le_refl _)
  | f + 1, f', t, hf, hff => by
    by_cases ht : t.toks = []
    · exact .nil ht (segsL_le hL d _ t)
    obtain ⟨f'', rfl⟩ : ∃ f'', f' = f'' + 1 := ⟨f' - 1, by omega⟩
    rw [segsL, segsL, isSeg_app ht]
    split
    · rename_i hsg
      have hlt := segF_lt hL d (E := E) hsg
      exact Ext.seq (fun h1 _ => ext_segF d hL h t ht h1) (fun x l => x :: l) (b := fun s => segsL E P d f s) (b' := fun s => segsL E' P' d f'' s) (fun s hs => ext_segsL f f'' s (by omega) (by omega)) (fun s hs => by rw [segsL_bad _ hs]) (fun s => segsL_le hL d f s)
    · exact fun _ _ => rfl
/-- All segments, whatever is left: the reading goes on behind them. -/
theorem ext_segsT : ∀ (f f' : Nat) (t : PSt), t.toks.length ≤ f → f + xs.length ≤ f' → (segsL E P d f t).2.fe = 0 → ∃ f'', (appS (segsL E P d f t).2 xs).toks.length ≤ f'' ∧
    segsL E' P' d f' (appS t xs) = ((segsL E P d f t).1 ++ (segsL E' P' d f'' (appS (segsL E P d f t).2 xs)).1, (segsL E' P' d f'' (appS (segsL E P d f t).2 xs)).2)
  | 0, f', t, hf, hff, _ => ⟨f', by unfold appS; simp only [segsL, List.length_append]; omega, by simp only [segsL, List.nil_append]⟩
  | f + 1, f', t, hf, hff, h1 => by
    rw [segsL] at h1 ⊢
    split
    · rename_i hsg
      rw [if_pos hsg] at h1
      have ht : t.toks ≠ [] := fun e => by
        have := segF_lt hL d (E := E) hsg
        rw [e] at this; simp at this
      have hlt := segF_lt hL d (E := E) hsg
      have hf1 : (segF E P d t).2.fe = 0 := Classical.byContradiction fun hf => by simp only at h1; rw [segsL_bad _ hf] at h1; exact hf h1
      obtain ⟨f'', rfl⟩ : ∃ f'', f' = f'' + 1 := ⟨f' - 1, by omega⟩
      obtain ⟨g, hg, e⟩ := ext_segsT f f'' (segF E P d t).2 (by omega) (by omega) h1
      refine ⟨g, hg, ?_⟩
      rw [segsL, isSeg_app ht, if_pos hsg, ext_segF d hL h t ht hf1]
      simp only
      rw [e]
      rfl
    · exact ⟨f', by unfold appS; simp only [List.length_append]; omega, by simp only [List.nil_append]⟩
theorem ext_pathF (t : PSt) : Ext xs (pathF E P d t) (pathF E' P' d (appS t xs)) := by
  by_cases ht : t.toks = []
  · exact .nil ht (pathF_le hL d t)
  intro h1 h2
  unfold pathF at h1 h2 ⊢
  simp only at h1 h2
  have hn : (nextS E t).toks ≠ [] := ne_of_le h2 (segsL_le hL d (E := E) _ (nextS E t))
  rw [isS_app _ ht, nextS_app (E := E) ht, ext_segsL d hL h (E := E) (nextS E t).toks.length _ (nextS E t) (Nat.le_refl _) (by unfold appS; simp) h1 h2]
theorem ext_sideF (t : PSt) : Ext xs (sideF E P d t) (sideF E' P' d (appS t xs)) := by
  by_cases ht : t.toks = []
  · exact .nil ht (sideF_le hL d t)
  unfold sideF
  rw [isPath_app ht, litS_app ht, nextS_app (E := E) ht]
  split
  · exact (ext_pathF d hL h t).map fun p => (⟨false, 0, 0, [], p⟩ : SideT)
  · cases litS t with
    | some x => exact fun _ _ => rfl
    | none => exact .bad (formS_fe E t)
theorem ext_cmp2 (a : SideT) (t : PSt) : Ext xs (cmp2 E P d a t) (cmp2 E' P' d a (appS t xs)) := by
  by_cases ht : t.toks = []
  · exact .nil ht (cmp2_le hL d a t)
  intro h1 h2
  unfold cmp2 at h1 h2 ⊢
  rw [opS_app ht, atS_app (E := E) ht]
  split
  · rename_i hc
    rw [if_pos hc] at h1
    simp only at h1
    cases ha : a.lit with
    | true => rw [ha] at h1; exact absurd h1 (formS_fe E t)
    | false => rfl
  · rename_i hc
    rw [if_neg hc] at h1 h2
    simp only at h1 h2
    have hk : ∀ (b : Bool) (s : PSt), (if b = true then failS (atS E t) 8 s else s).toks = s.toks := fun b s => by cases b <;> simp [failS_len]
    have hk2 : ∀ (b : Bool) (s : PSt), (if b = true then failS (atS E t) 8 s else s).fe = 0 → s.fe = 0 := fun b s hs => by
      cases b
      · exact hs
      · exact Classical.byContradiction fun hf => by rw [if_pos rfl, failS_bad hf] at hs; exact hf hs
    rw [hk] at h2
    have h3 := hk2 _ _ h1
    rw [nextS_app (E := E) ht, ext_sideF d hL h (nextS E t) h3 h2]
    simp only
    rw [failS_app]
    have hk3 : ∀ (b : Bool) (x y : PSt), (if b = true then appS x xs else appS y xs) = appS (if b = true then x else y) xs := fun b x y => by cases b <;> rfl
    rw [hk3]
theorem ext_cmpF (t : PSt) : Ext xs (cmpF E P d t) (cmpF E' P' d (appS t xs)) := by
  unfold cmpF
  intro h1 h2
  have hf : (sideF E P d t).2.fe = 0 := Classical.byContradiction fun hf => by rw [cmp2_bad _ hf] at h1; exact hf h1
  have hn : (sideF E P d t).2.toks ≠ [] := ne_of_le h2 (cmp2_le hL d _ _)
  rw [ext_sideF d hL h t hf hn]
  exact ext_cmp2 d hL h _ _ h1 h2
theorem ext_roundF (t : PSt) : Ext xs (roundF E P d t) (roundF E' P' d (appS t xs)) := by
  by_cases ht : t.toks = []
  · exact .nil ht (roundF_le hL d t)
  unfold roundF
  rw [openS_app (E := E) d ht]
  exact (h (d + 1) (openS E d t)).post (fun s hs => must_bad _ hs) (fun s => mustS_le E [41] s) (fun s hs => mustS_app hs)
theorem ext_notF (m m' : Bool) (t : PSt) : Ext xs (notF m E P d t) (notF m' E' P' d (appS t xs)) := by
  by_cases ht : t.toks = []
  · exact .nil ht (notF_le hL d m t)
  unfold notF
  rw [isS_app _ ht, isPath_app ht]
  split
  · exact (ext_roundF d hL h t).map fun x => mkE 2 [x]
  split
  · exact (ext_pathF d hL h t).map fun p => mkE 2 [tstE p]
  · exact .bad (formS_fe E t)
theorem ext_oneF (m m' : Bool) (t : PSt) : Ext xs (oneF m E P d t) (oneF m' E' P' d (appS t xs)) := by
  by_cases ht : t.toks = []
  · exact .nil ht (oneF_le hL d m t)
  unfold oneF
  rw [isS_app _ ht, isS_app _ ht, openS_app (E := E) d ht]
  split
  · exact ext_notF (d + 1) hL h m m' _
  split
  · exact ext_roundF d hL h t
  · exact ext_cmpF d hL h t
end
theorem ext_listL {E E' : Int} {sg : List UInt8} {xs : List TokD} {F F' : PSt → ExprT × PSt} (hl : ∀ t, (F t).2.toks.length ≤ t.toks.length) (h : ∀ t, Ext xs (F t) (F' (appS t xs))) :
    ∀ (f f' : Nat) (t : PSt), t.toks.length ≤ f → f ≤ f' → Ext xs (listL E sg F f t) (listL E' sg F' f' (appS t xs))
  | 0, _, t, hf, _ => .nil (t := t) (List.eq_nil_of_length_eq_zero (by omega)) (Nat.le_refl _)
  | f + 1, f', t, hf, hff => by
    by_cases ht : t.toks = []
    · exact .nil ht (listL_le hl _ t)
    obtain ⟨f'', rfl⟩ : ∃ f'', f' = f'' + 1 := ⟨f' - 1, by omega⟩
    rw [listL, listL, isS_app _ ht]
    split
    · rename_i hs
      rw [nextS_app (E := E) ht]
      have hlt := is_lt (E := E) hs
      have hle := hl (nextS E t)
      exact Ext.seq (h (nextS E t)) (fun x l => x :: l) (b := fun s => listL E sg F f s) (b' := fun s => listL E' sg F' f'' s) (fun s hs => ext_listL hl h f f'' s (by omega) (by omega)) (fun s hs => by rw [listL_bad _ hs]) (fun s => listL_le hl f s)
    · exact fun _ _ => rfl
theorem ext_listF {E E' : Int} {sg : List UInt8} {k : Int} {xs : List TokD} {F F' : PSt → ExprT × PSt} (hl : ∀ t, (F t).2.toks.length ≤ t.toks.length) (h : ∀ t, Ext xs (F t) (F' (appS t xs))) (t : PSt) : Ext xs (listF E sg k F t) (listF E' sg k F' (appS t xs)) := by
  unfold listF
  exact Ext.seq (h t) (joinE k) (b := fun s => listL E sg F s.toks.length s) (b' := fun s => listL E' sg F' s.toks.length s) (fun s _ => ext_listL hl h s.toks.length _ s (Nat.le_refl _) (by unfold appS; simp)) (fun s hs => by rw [listL_bad _ hs]) (fun s => listL_le hl _ s)
theorem ext_orF {E E' : Int} {xs : List TokD} {P P' : Nat → PSt → ExprT × PSt} (hL : LeP P) (h : ExtP xs P P') (m m' : Bool) : ExtP xs (orF m E P) (orF m' E' P') := fun d t =>
  ext_listF (fun t => andF_le hL d t) (fun t => ext_listF (fun t => oneF_le hL d m t) (fun t => ext_oneF d hL h m m' t) t) t
theorem ext_orS (m m' : Bool) (E E' : Int) (xs : List TokD) : ∀ n, ExtP xs (orS m E n) (orS m' E' n)
  | 0 => fun _ _ _ _ => rfl
  | n + 1 => ext_orF (orS_le m E n) (ext_orS m m' E E' xs n) m m'

end Go.Proofs.YtmopeandckmgcaaDoor
