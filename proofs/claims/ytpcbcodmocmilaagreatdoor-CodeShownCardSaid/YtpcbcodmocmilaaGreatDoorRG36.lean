/- RG36: To, Tr, Hf, Ib joined. -/
import Derived.Test.YtpcbcodmocmilaaGreatDoorRG09
import Derived.Test.YtpcbcodmocmilaaGreatDoorRG33
import Derived.Test.YtpcbcodmocmilaaGreatDoorRG32
import Derived.Test.YtpcbcodmocmilaaGreatDoorRHe
import Derived.Test.YtpcbcodmocmilaaGreatDoorRG31
namespace Go.Proofs.YtpcbcodmocmilaaGreatDoor
open Go.RowKit
/- Queries read, plain: more tokens behind change nothing of what is read ahead of them (no word of a dump). -/
section

/-- More tokens behind. -/
def appS (t : PSt) (xs : List TokD) : PSt := ⟨t.toks ++ xs, t.fe, t.fa⟩
/-- The same is read, where something is left. -/
def Ext {α : Type} (xs : List TokD) (a b : α × PSt) : Prop := a.2.fe = 0 → a.2.toks ≠ [] → b = (a.1, appS a.2 xs)
section
variable {E E' : Int} {t : PSt} {xs : List TokD}
theorem ne_of_le {s t : PSt} (h : s.toks ≠ []) (hl : s.toks.length ≤ t.toks.length) : t.toks ≠ [] := fun e => by
  rw [e] at hl
  exact h (List.eq_nil_of_length_eq_zero (by simpa using hl))
end
section
variable {α β γ : Type} {xs : List TokD} {a a' : α × PSt}
theorem Ext.map (h : Ext xs a a') (g : α → β) : Ext xs (g a.1, a.2) (g a'.1, a'.2) := fun h1 h2 => by rw [h h1 h2]
theorem Ext.empty {b : α × PSt} (h : a.2.toks = []) : Ext xs a b := fun _ h2 => absurd h h2
theorem Ext.nil {t : PSt} {b : α × PSt} (h : t.toks = []) (hl : a.2.toks.length ≤ t.toks.length) : Ext xs a b := .empty (List.eq_nil_of_length_eq_zero (by rw [h] at hl; simpa using hl))
theorem Ext.post (h : Ext xs a a') {u u' : PSt → PSt} (hb : ∀ s, s.fe ≠ 0 → u s = s) (hl : ∀ s, (u s).toks.length ≤ s.toks.length) (hu : ∀ s, s.toks ≠ [] → u' (appS s xs) = appS (u s) xs) : Ext xs (a.1, u a.2) (a'.1, u' a'.2) := fun h1 h2 => by
  have hf : a.2.fe = 0 := Classical.byContradiction fun hf => by simp only at h1; rw [hb _ hf] at h1; exact hf h1
  have hn : a.2.toks ≠ [] := ne_of_le h2 (hl _)
  rw [h hf hn]
  simp only
  rw [hu _ hn]
theorem Ext.seq (h : Ext xs a a') {b b' : PSt → β × PSt} (g : α → β → γ) (h2 : ∀ s, s.toks.length ≤ a.2.toks.length → Ext xs (b s) (b' (appS s xs))) (hb : ∀ s, s.fe ≠ 0 → (b s).2 = s) (hl : ∀ s, (b s).2.toks.length ≤ s.toks.length) :
    Ext xs (g a.1 (b a.2).1, (b a.2).2) (g a'.1 (b' a'.2).1, (b' a'.2).2) := fun k1 k2 => by
  have hf : a.2.fe = 0 := Classical.byContradiction fun hf => by simp only at k1; rw [hb _ hf] at k1; exact hf k1
  have hn : a.2.toks ≠ [] := ne_of_le k2 (hl _)
  rw [h hf hn]
  simp only
  rw [h2 a.2 (Nat.le_refl _) k1 k2]
end
/-- Two readers of expressions. -/
def ExtP (xs : List TokD) (P P' : Nat → PSt → ExprT × PSt) : Prop := ∀ d t, Ext xs (P d t) (P' d (appS t xs))
section
variable {E E' : Int} {xs : List TokD} {P P' : Nat → PSt → ExprT × PSt} (d : Nat)
variable (hL : LeP P) (h : ExtP xs P P')
include h hL
end
end
/- Queries read, plain: two queries one behind the other; a query cut (no word of a dump). -/
section

theorem parse2_of {m : Bool} {E : Int} {t : PSt} {p : PathT} {s : PSt} (h : parse1 m E t = (p, s)) (h1 : s.toks = []) (h2 : s.fe = 0) : parse2 m E t = .ok p := by
  unfold parse2
  rw [h]
  have ho : ovS s = true := by unfold ovS; rw [h1]; simp
  simp only
  rw [ho, if_pos rfl, if_pos h2]
end
/- What is written of a query is the same query; two that are written alike are one; plain. -/
section

section
variable {S : List UInt8 → Prop}
theorem RdE.le {P : Nat → PSt → ExprT × PSt} {T : Bool → ExprT → List TokD} {W : ExprT → Prop} {d d' : Nat} (h : RdE P T W d) (hd : d ≤ d') : RdE P T W d' := fun e h1 => h e (by omega)
theorem side_head {T : Bool → ExprT → List TokD} {W : ExprT → Prop} {x : SideT} (h : WfSide S W x) (g : Bool) (r : List TokD) (fa : Int) {l : List UInt8} (h1 : l ≠ [36]) (h2 : l ≠ [64]) : isS l ⟨sideTk T g x ++ r, 0, fa⟩ = false := by
  cases h with
  | path p a =>
    show isS l ⟨sgT [if p.abs then 36 else 64] g :: (p.segs.flatMap (segTk T) ++ r), 0, fa⟩ = false
    cases p.abs with
    | true => exact is_ng (l := [36]) (fun e => h1 e.symm) _
    | false => exact is_ng (l := [64]) (fun e => h2 e.symm) _
  | null => exact is_k (x := nmT [110, 117, 108, 108] g) (by simp [nmT]) l
  | tru => exact is_k (x := nmT [116, 114, 117, 101] g) (by simp [nmT]) l
  | fls => exact is_k (x := nmT [102, 97, 108, 115, 101] g) (by simp [nmT]) l
  | num n a => exact is_k (x := nbT n g) (by simp [nbT]) l
  | str s a => exact is_k (x := stT s g) (by simp [stT]) l
theorem path_head {T : Bool → ExprT → List TokD} (p : PathT) (g : Bool) (r : List TokD) (fa : Int) {l : List UInt8} (h1 : l ≠ [36]) (h2 : l ≠ [64]) : isS l ⟨pathTk T g p ++ r, 0, fa⟩ = false := by
  show isS l ⟨sgT [if p.abs then 36 else 64] g :: (p.segs.flatMap (segTk T) ++ r), 0, fa⟩ = false
  cases p.abs with
  | true => exact is_ng (l := [36]) (fun e => h1 e.symm) _
  | false => exact is_ng (l := [64]) (fun e => h2 e.symm) _
theorem fit_or {d : Nat} {l : List ExprT} (h : Fit d (mkE 0 l)) : (∀ k ∈ l, k.kind ≠ 0 → Fit d k) ∧ (∀ k ∈ l, k.kind = 0 → d + 1 ≤ 32 ∧ Fit (d + 1) k) := by
  generalize hx : mkE 0 l = x at h
  cases h with
  | or d l' a b c => simp only [mkE, ExprT.mk.injEq, true_and, and_true] at hx; subst hx; exact ⟨a, fun k hk h => ⟨b k hk h, c k hk h⟩⟩
  | and => simp [mkE] at hx
  | not => simp [mkE] at hx
  | test => simp [mkE, tstE] at hx
  | cmp => simp [mkE] at hx
theorem fit_and {d : Nat} {l : List ExprT} (h : Fit d (mkE 1 l)) : (∀ k ∈ l, ¬ (k.kind = 0 ∨ k.kind = 1) → Fit d k) ∧ (∀ k ∈ l, k.kind = 0 ∨ k.kind = 1 → d + 1 ≤ 32 ∧ Fit (d + 1) k) := by
  generalize hx : mkE 1 l = x at h
  cases h with
  | or => simp [mkE] at hx
  | and d l' a b c => simp only [mkE, ExprT.mk.injEq, true_and, and_true] at hx; subst hx; exact ⟨a, fun k hk h => ⟨b k hk h, c k hk h⟩⟩
  | not => simp [mkE] at hx
  | test => simp [mkE, tstE] at hx
  | cmp => simp [mkE] at hx
theorem fit_not {d : Nat} {k : ExprT} (h : Fit d (mkE 2 [k])) : d + 1 ≤ 32 ∧ (k.kind = 3 → Fit (d + 1) k) ∧ (k.kind ≠ 3 → d + 2 ≤ 32 ∧ Fit (d + 2) k) := by
  generalize hx : mkE 2 [k] = x at h
  cases h with
  | or => simp [mkE] at hx
  | and => simp [mkE] at hx
  | not d k' a b c e => simp only [mkE, ExprT.mk.injEq, true_and, and_true, List.cons.injEq] at hx; subst hx; exact ⟨a, b, fun h => ⟨c h, e h⟩⟩
  | test => simp [mkE, tstE] at hx
  | cmp => simp [mkE] at hx
theorem fit_test {d : Nat} {p : PathT} (h : Fit d (tstE p)) : FitP d p := by
  generalize hx : tstE p = x at h
  cases h with
  | or => simp [mkE, tstE] at hx
  | and => simp [mkE, tstE] at hx
  | not => simp [mkE, tstE] at hx
  | test d p' a b => simp only [tstE, ExprT.mk.injEq, true_and, and_true] at hx; subst hx; exact fun s hs y hy e he => ⟨a s hs y hy e he, b s hs y hy e he⟩
  | cmp => simp [tstE] at hx
theorem fit_cmp {d : Nat} {op : Int} {a b : SideT} (h : Fit d ⟨4, [], path0, op, a, b⟩) : FitP d a.p ∧ FitP d b.p := by
  generalize hx : (⟨4, [], path0, op, a, b⟩ : ExprT) = x at h
  cases h with
  | or => simp [mkE] at hx
  | and => simp [mkE] at hx
  | not => simp [mkE] at hx
  | test => simp [tstE] at hx
  | cmp d op' a' b' a1 a2 b1 b2 =>
    simp only [ExprT.mk.injEq, true_and] at hx
    obtain ⟨_, rfl, rfl⟩ := hx
    exact ⟨fun s hs y hy e he => ⟨a1 s hs y hy e he, a2 s hs y hy e he⟩, fun s hs y hy e he => ⟨b1 s hs y hy e he, b2 s hs y hy e he⟩⟩
theorem main_r (m : Bool) (E : Int) : ∀ (N k : Nat), k ≤ N → ∀ x, WfN S k x → ∀ n d, 32 ≤ n + d → d ≤ 32 → Fit d x → Reads3 m E (orS m E n) (exprTk k) d x
  | 0, k, hk, _, h, _, _, _, _, _ => by
    obtain rfl : k = 0 := by omega
    exact h.elim
  | N + 1, 0, _, _, h, _, _, _, _, _ => h.elim
  | N + 1, k + 1, hk, x, h, n, d, hn, hd, hf => by
    have h' : WfX S (WfN S k) x := h
    have ih := fun j (hj : j ≤ N) => main_r m E N j hj
    have hRP : ∀ j, j ≤ N → RdE (orS m E n) (exprTk j) (WfN S j) d := fun j hj d' h1 h2 g e r fa he hfe hr => by
      obtain ⟨n', rfl⟩ : ∃ n', n = n' + 1 := ⟨n - 1, by omega⟩
      exact (ih j hj e he n' d' (by omega) h2 hfe).1 g r fa hr
    have hP := hRP k (by omega)
    have rnd : ∀ (e : ExprT), d + 1 ≤ 32 → WfN S k e → Fit (d + 1) e → ∀ (g : Bool) (r : List TokD) (fa : Int), oneF m E (orS m E n) d ⟨sgT [40] g :: (exprTk k false e ++ sgT [41] false :: r), 0, fa⟩ = (e, ⟨r, 0, fa⟩) := fun e h1 h2 h3 g r fa => by
      unfold oneF
      rw [if_neg (by rw [is_ng (by decide)]; simp), if_pos (is_sg _ _), round_r hP h1 h2 h3]
    cases h' with
    | or l a b =>
      obtain ⟨f1, f2⟩ := fit_or hf
      refine ⟨fun g r fa hr => ?_, fun hh => absurd rfl hh, fun hh => absurd (.inl rfl) hh⟩
      rw [tk_or]
      refine list_r (hr.is (by decide)) (fun g k' => roundTk (exprTk k) (k'.kind == 0) g k') l a g fun g k' hk' r' hr' => ?_
      have hst : Stop LA r' := by
        rcases hr' with rfl | ⟨r'', rfl⟩
        · exact hr.mono (by decide)
        · exact Stop.sg _ _ _ (by decide)
      by_cases h0 : k'.kind = 0
      · obtain ⟨e1, e2⟩ := f2 k' hk' h0
        rw [show roundTk (exprTk k) (k'.kind == 0) g k' ++ r' = sgT [40] g :: (exprTk k false k' ++ sgT [41] false :: r') from by unfold roundTk; rw [if_pos (by simpa using h0)]; simp]
        exact list_1 (rnd k' e1 (b k' hk') e2 g r' fa) (hst.is (by decide))
      · rw [show roundTk (exprTk k) (k'.kind == 0) g k' = exprTk k g k' from by unfold roundTk; rw [if_neg (by simpa using h0)]]
        exact (ih k (by omega) k' (b k' hk') n d hn hd (f1 k' hk' h0)).2.1 h0 g r' fa hst
    | and l a b =>
      obtain ⟨f1, f2⟩ := fit_and hf
      have hB : ∀ g r fa, Stop LA r → andF m E (orS m E n) d ⟨exprTk (k + 1) g (mkE 1 l) ++ r, 0, fa⟩ = (mkE 1 l, ⟨r, 0, fa⟩) := fun g r fa hr => by
        rw [tk_and]
        refine list_r (hr.is (by decide)) (fun g k' => roundTk (exprTk k) (k'.kind == 0 || k'.kind == 1) g k') l a g fun g k' hk' r' hr' => ?_
        have hst : Stop L1 r' := by
          rcases hr' with rfl | ⟨r'', rfl⟩
          · exact hr.mono (by decide)
          · exact Stop.sg _ _ _ (by decide)
        by_cases h0 : k'.kind = 0 ∨ k'.kind = 1
        · obtain ⟨e1, e2⟩ := f2 k' hk' h0
          rw [show roundTk (exprTk k) (k'.kind == 0 || k'.kind == 1) g k' ++ r' = sgT [40] g :: (exprTk k false k' ++ sgT [41] false :: r') from by unfold roundTk; rw [if_pos (by simpa using h0)]; simp]
          exact rnd k' e1 (b k' hk') e2 g r' fa
        · rw [show roundTk (exprTk k) (k'.kind == 0 || k'.kind == 1) g k' = exprTk k g k' from by unfold roundTk; rw [if_neg (by simpa using h0)]]
          exact (ih k (by omega) k' (b k' hk') n d hn hd (f1 k' hk' h0)).2.2 h0 g r' fa hst
      exact ⟨fun g r fa hr => list_1 (hB g r fa (hr.mono (by decide))) (hr.is (by decide)), fun _ => hB, fun hh => absurd (.inr rfl) hh⟩
    | not k' a =>
      obtain ⟨f0, f1, f2⟩ := fit_not hf
      refine reads_one fun g r fa hr => ?_
      rw [tk_not]
      show oneF m E (orS m E n) d ⟨sgT [33] g :: (roundTk (exprTk k) (k'.kind != 3) false k' ++ r), 0, fa⟩ = _
      unfold oneF
      rw [if_pos (is_sg _ _), opx E f0]
      by_cases h3 : k'.kind = 3
      · rw [show roundTk (exprTk k) (k'.kind != 3) false k' = exprTk k false k' from by unfold roundTk; rw [if_neg (by simpa using h3)]]
        obtain ⟨j, rfl⟩ : ∃ j, k = j + 1 := by
          cases k with
          | zero => exact a.elim
          | succ j => exact ⟨j, rfl⟩
        have a' : WfX S (WfN S j) k' := a
        have ff := f1 h3
        cases a' with
        | or => simp [mkE] at h3
        | and => simp [mkE] at h3
        | not => simp [mkE] at h3
        | cmp => simp at h3
        | test p ap =>
          rw [tk_test]
          obtain ⟨p1, p2⟩ := path_r (E := E) ((hRP j (by omega)).le (Nat.le_add_right d 1)) ap (fit_test ff) false fa (hr.mono (by decide))
          unfold notF
          rw [if_neg (by rw [path_head p _ _ _ (by decide) (by decide)]; simp), if_pos p2, p1]
      · obtain ⟨e1, e2⟩ := f2 h3
        rw [show roundTk (exprTk k) (k'.kind != 3) false k' ++ r = sgT [40] false :: (exprTk k false k' ++ sgT [41] false :: r) from by unfold roundTk; rw [if_pos (by simpa using h3)]; simp]
        unfold notF
        rw [if_pos (is_sg _ _), round_r (hP.le (Nat.le_add_right d 1)) e1 a e2]
    | test p a =>
      refine reads_one fun g r fa hr => ?_
      rw [tk_test]
      unfold oneF
      rw [if_neg (by rw [path_head p _ _ _ (by decide) (by decide)]; simp), if_neg (by rw [path_head p _ _ _ (by decide) (by decide)]; simp), test_r hP a (fit_test hf) g fa hr]
    | cmp op a b a1 a2 a3 a4 a5 a6 =>
      obtain ⟨f1, f2⟩ := fit_cmp hf
      refine reads_one fun g r fa hr => ?_
      rw [tk_cmp, show sideTk (exprTk k) g a ++ (sgT (opB op) true :: sideTk (exprTk k) true b) ++ r = sideTk (exprTk k) g a ++ (sgT (opB op) true :: (sideTk (exprTk k) true b ++ r)) from by simp]
      unfold oneF
      rw [if_neg (by rw [side_head a3 _ _ _ (by decide) (by decide)]; simp), if_neg (by rw [side_head a3 _ _ _ (by decide) (by decide)]; simp), cmp_r hP a1 a2 a3 a4 a5 a6 f1 f2 g fa hr]
/-- The tokens of a query that is written are that query. -/
theorem read_back (m : Bool) (E : Int) {p : PathT} (hp : WfP S (WfN S 200) p) (hf : FitP 0 p) (ha : p.abs = true) : parse2 m E ⟨showTk p, 0, 0⟩ = .ok p := by
  have hP : RdE (orS m E 34) (exprTk 200) (WfN S 200) 0 := fun d' h1 h2 g e r fa he hfe hr => (main_r (S := S) m E 200 200 (Nat.le_refl _) e he 33 d' (by omega) h2 hfe).1 g r fa hr
  obtain ⟨k1, _⟩ := path_r (E := E) hP hp hf false (r := []) 0 (.inl rfl)
  rw [List.append_nil] at k1
  refine parse2_of (s := ⟨[], 0, 0⟩) ?_ rfl rfl
  unfold parse1
  rw [show isS [36] ⟨showTk p, 0, 0⟩ = true from by
    show isS [36] ⟨sgT [if p.abs then 36 else 64] false :: p.segs.flatMap (segTk (exprTk 200)), 0, 0⟩ = true
    rw [ha]; exact is_sg _ _]
  exact k1
end
theorem ss_right {N : Nat} : ∀ s, SS N s → runU 0 s = 0 := fun _ h => h.2
/-- A query that is read, written: it is read as the same. -/
theorem show_back {m m' : Bool} {l : List UInt8} {p : PathT} (h : parseT m l = .ok p) (hl : (showT p).length ≤ 4096) : parseT m' (showT p) = .ok p := by
  obtain ⟨h1, _, h3⟩ := parse_wfS h
  have hf := parse2_f h
  obtain ⟨t, ht, hg⟩ := show_lexL ss_right h1 hl
  have hb := read_back m' ((showT p).length : Nat) h1 hf h3
  unfold parseT stOf
  rw [ht]
  have := alike_parse2 m' ((showT p).length : Nat) ((showT p).length : Nat) (t := ⟨showTk p, 0, 0⟩) (t' := ⟨t, 0, 0⟩) ⟨hg, rfl⟩
  rw [hb] at this
  exact this
theorem show_long {m : Bool} {l : List UInt8} (h : 4096 < l.length) : parseT m l = .error (4, 0) := by
  unfold parseT stOf lexL
  rw [if_pos h]
  unfold parse2 parse1
  rfl
/-- Two that are written alike are one. -/
theorem show_inj {m m' : Bool} {l l' : List UInt8} {p q : PathT} (h : parseT m l = .ok p) (h' : parseT m' l' = .ok q) (e : showT p = showT q) : p = q := by
  obtain ⟨h1, _, h3⟩ := parse_wfS h
  obtain ⟨k1, _, k3⟩ := parse_wfS h'
  have hb := read_back true 0 h1 (parse2_f h) h3
  have kb := read_back true 0 k1 (parse2_f h') k3
  have hx := show_lex ss_right h1
  have kx := show_lex ss_right k1
  rw [← e] at kx
  have hn : ∀ {p : PathT}, p.abs = true → bkN (showT p) = 0 := fun {p} hp => by unfold showT pathW; rw [hp]; rfl
  obtain ⟨t, ht, hg⟩ := hx.run ((showT p).length + 1) 0 (by omega) (.inr (hn h3))
  obtain ⟨t', ht', hg'⟩ := kx.run ((showT p).length + 1) 0 (by omega) (.inr (hn h3))
  rw [ht] at ht'
  obtain rfl := Except.ok.inj ht'
  have a1 := alike_parse2 true 0 0 (t := ⟨showTk p, 0, 0⟩) (t' := ⟨t, 0, 0⟩) ⟨hg, rfl⟩
  have a2 := alike_parse2 true 0 0 (t := ⟨showTk q, 0, 0⟩) (t' := ⟨t, 0, 0⟩) ⟨hg', rfl⟩
  rw [hb] at a1
  rw [kb] at a2
  exact Except.ok.inj (a1.symm.trans a2)

end
/- ref17: sameSel, of any two (printed by gen_ib.py). -/
section
open Go.RowKit

/-- An answer that tells whether p. -/
def Ans (p : Prop) (w : World) (e : Ending) (w' : World) : Prop := ∃ b : Bool, e = .returned (.bool b) ∧ (b = true ↔ p) ∧ Bel w.heap.size w w'
theorem Ans.yes {p : Prop} {w : World} {e : Ending} {w' : World} (h : Ans p w e w') (hp : p) : e = .returned (.bool true) ∧ Bel w.heap.size w w' := by
  obtain ⟨b, rfl, hb, h⟩ := h
  obtain rfl := hb.2 hp
  exact ⟨rfl, h⟩
theorem Ans.no {p : Prop} {w : World} {e : Ending} {w' : World} (h : Ans p w e w') (hp : ¬ p) : e = .returned (.bool false) ∧ Bel w.heap.size w w' := by
  obtain ⟨b, rfl, hb, h⟩ := h
  cases b with
  | true => exact absurd (hb.1 rfl) hp
  | false => exact ⟨rfl, h⟩
theorem Ans.of {p : Prop} {w : World} {e : Ending} {w' : World} {b : Bool} (h : e = .returned (.bool b) ∧ Bel w.heap.size w w') (hb : b = true ↔ p) : Ans p w e w' := ⟨b, h.1, hb, h.2⟩
theorem Kp.kept {K : Nat → Prop} {w y : World} (h : Kept [] w y) (hK : ∀ b, K b → b < w.heap.size → K b) : Kp K K w y := ⟨h.1, fun b hb hlt => ⟨hK b hb hlt, h.2 b hlt (by simp)⟩⟩
/-- sameExpr tells whether two expressions of n levels are one. -/
def SEq (n : Nat) : Prop := ∀ (K K' : Nat → Prop) (w : World) (x y : ExprT) (cs cs' : List Value), ExR K n w cs x → ExR K' n w cs' y → Calls Tryz.prog 58 #[.agg cs.toArray, .agg cs'.toArray] w (Ans (x = y) w)
theorem s_eq {a b : List UInt8} (h : a ≠ b) : ((bs a).toList == (bs b).toList) = false := str_f fun e => h (by have := congrArg (fun s : ByteArray => s.data.toList) e; simpa [bs] using this)
theorem s_ne {a b : List UInt8} (h : a ≠ b) : ((bs a).toList != (bs b).toList) = true := by rw [bne, s_eq h]; rfl
theorem i_eq {a b : Int} (h : a ≠ b) : (a == b) = false := by simpa using h
theorem b_eq {a b : Bool} (h : a ≠ b) : (a == b) = false := by simpa using h
theorem b_x {a b : Bool} (h : a ≠ b) : (!a == b) = true := by cases a <;> cases b <;> simp_all
theorem i_ne {a b : Int} (h : a ≠ b) : (a != b) = true := by rwa [bne_iff_ne]
theorem b_ne {a b : Bool} (h : a ≠ b) : (a != b) = true := by rwa [bne_iff_ne]

set_option maxRecDepth 100000 in
set_option maxHeartbeats 2000000 in
theorem ssel_no (k1 i1 f1 t1 s1 k2 i2 f2 t2 s2 : Int) (n1 n2 : List UInt8) (a1 b1 a2 b2 : Bool) (v1 v2 : Value) (w : World)
    (h : k1 ≠ k2 ∨ (k1 = k2 ∧ n1 ≠ n2) ∨ (k1 = k2 ∧ n1 = n2 ∧ i1 ≠ i2) ∨ (k1 = k2 ∧ n1 = n2 ∧ i1 = i2 ∧ f1 ≠ f2) ∨ (k1 = k2 ∧ n1 = n2 ∧ i1 = i2 ∧ f1 = f2 ∧ t1 ≠ t2) ∨ (k1 = k2 ∧ n1 = n2 ∧ i1 = i2 ∧ f1 = f2 ∧ t1 = t2 ∧ s1 ≠ s2) ∨ (k1 = k2 ∧ n1 = n2 ∧ i1 = i2 ∧ f1 = f2 ∧ t1 = t2 ∧ s1 = s2 ∧ a1 ≠ a2) ∨ (k1 = k2 ∧ n1 = n2 ∧ i1 = i2 ∧ f1 = f2 ∧ t1 = t2 ∧ s1 = s2 ∧ a1 = a2 ∧ b1 ≠ b2)) :
    Calls Tryz.prog 36 #[.agg #[.int .i64 k1, .string (bs n1), .int .i64 i1, .int .i64 f1, .int .i64 t1, .int .i64 s1, .bool a1, .bool b1, v1], .agg #[.int .i64 k2, .string (bs n2), .int .i64 i2, .int .i64 f2, .int .i64 t2, .int .i64 s2, .bool a2, .bool b2, v2]] w (fun e w' => e = .returned (.bool false) ∧ Bel w.heap.size w w') := by
  have M := Lib.hid (Own.start [] w (fun _ => True) fun _ _ => trivial)
  rcases h with h | ⟨rfl, h⟩ | ⟨rfl, rfl, h⟩ | ⟨rfl, rfl, rfl, h⟩ | ⟨rfl, rfl, rfl, rfl, h⟩ | ⟨rfl, rfl, rfl, rfl, rfl, h⟩ | ⟨rfl, rfl, rfl, rfl, rfl, rfl, h⟩ | ⟨rfl, rfl, rfl, rfl, rfl, rfl, rfl, h⟩
  all_goals
    first | replace h := i_ne h | (have h2 := s_eq h; replace h := s_ne h) | (have h2 := b_x h; replace h := b_ne h)
    go_enter Tryz.func36, Tryz.ntmps36
    go_wp2_with (first | ((with_reducible refine g_bx 47 2 ?_); refine l_bx rfl M.out ?_; clear M; intro g2 w' hg2 M) | ((with_reducible refine g_bx 47 3 ?_); refine l_bx rfl M.out ?_; clear M; intro g3 w' hg3 M) | ((with_reducible refine g_ld 3 ?_); refine l_ld1 O_int rfl M.out (by repeat constructor) (by exact rfl) ?_) | ((with_reducible refine g_ld 9 ?_); refine l_ld1 O_str rfl M.out (by repeat constructor) (by exact rfl) ?_) | ((with_reducible refine g_ld 2 ?_); refine l_ld1 O_i64 rfl M.out (by repeat constructor) (by exact rfl) ?_) | ((with_reducible refine g_ld 4 ?_); refine l_ld1 O_bool rfl M.out (by repeat constructor) (by exact rfl) ?_) | ((with_reducible refine g_ld 45 ?_); refine l_ld1 O_pex rfl M.out (by repeat constructor) (by exact rfl) ?_) | ((with_reducible refine q_gl 3 ?_); refine q_ld1g O_int rfl rfl M.out (by repeat constructor) (by exact rfl) ?_) | ((with_reducible refine q_gl 9 ?_); refine q_ld1g O_str rfl rfl M.out (by repeat constructor) (by exact rfl) ?_) | ((with_reducible refine q_gl 2 ?_); refine q_ld1g O_i64 rfl rfl M.out (by repeat constructor) (by exact rfl) ?_) | ((with_reducible refine q_gl 4 ?_); refine q_ld1g O_bool rfl rfl M.out (by repeat constructor) (by exact rfl) ?_) | ((with_reducible refine q_gl 45 ?_); refine q_ld1g O_pex rfl rfl M.out (by repeat constructor) (by exact rfl) ?_))
    go_ret
    exact ⟨rfl, M.out.bel0⟩
set_option maxRecDepth 100000 in
set_option maxHeartbeats 2000000 in
theorem ssel_nn (k1 i1 f1 t1 s1 : Int) (n1 : List UInt8) (a1 b1 : Bool) (w : World) : Calls Tryz.prog 36 #[.agg #[.int .i64 k1, .string (bs n1), .int .i64 i1, .int .i64 f1, .int .i64 t1, .int .i64 s1, .bool a1, .bool b1, .pointer none], .agg #[.int .i64 k1, .string (bs n1), .int .i64 i1, .int .i64 f1, .int .i64 t1, .int .i64 s1, .bool a1, .bool b1, .pointer none]] w (fun e w' => e = .returned (.bool true) ∧ Bel w.heap.size w w') := by
  have M := Lib.hid (Own.start [] w (fun _ => True) fun _ _ => trivial)
  go_enter Tryz.func36, Tryz.ntmps36
  go_wp2_with (first | ((with_reducible refine g_bx 47 2 ?_); refine l_bx rfl M.out ?_; clear M; intro g2 w' hg2 M) | ((with_reducible refine g_bx 47 3 ?_); refine l_bx rfl M.out ?_; clear M; intro g3 w' hg3 M) | ((with_reducible refine g_ld 3 ?_); refine l_ld1 O_int rfl M.out (by repeat constructor) (by exact rfl) ?_) | ((with_reducible refine g_ld 9 ?_); refine l_ld1 O_str rfl M.out (by repeat constructor) (by exact rfl) ?_) | ((with_reducible refine g_ld 2 ?_); refine l_ld1 O_i64 rfl M.out (by repeat constructor) (by exact rfl) ?_) | ((with_reducible refine g_ld 4 ?_); refine l_ld1 O_bool rfl M.out (by repeat constructor) (by exact rfl) ?_) | ((with_reducible refine g_ld 45 ?_); refine l_ld1 O_pex rfl M.out (by repeat constructor) (by exact rfl) ?_) | ((with_reducible refine q_gl 3 ?_); refine q_ld1g O_int rfl rfl M.out (by repeat constructor) (by exact rfl) ?_) | ((with_reducible refine q_gl 9 ?_); refine q_ld1g O_str rfl rfl M.out (by repeat constructor) (by exact rfl) ?_) | ((with_reducible refine q_gl 2 ?_); refine q_ld1g O_i64 rfl rfl M.out (by repeat constructor) (by exact rfl) ?_) | ((with_reducible refine q_gl 4 ?_); refine q_ld1g O_bool rfl rfl M.out (by repeat constructor) (by exact rfl) ?_) | ((with_reducible refine q_gl 45 ?_); refine q_ld1g O_pex rfl rfl M.out (by repeat constructor) (by exact rfl) ?_))
  go_ret
  exact ⟨rfl, M.out.bel0⟩
set_option maxRecDepth 100000 in
set_option maxHeartbeats 2000000 in
theorem ssel_ns (k1 i1 f1 t1 s1 : Int) (n1 : List UInt8) (a1 b1 : Bool) (p o : Nat) (w : World) : Calls Tryz.prog 36 #[.agg #[.int .i64 k1, .string (bs n1), .int .i64 i1, .int .i64 f1, .int .i64 t1, .int .i64 s1, .bool a1, .bool b1, .pointer none], .agg #[.int .i64 k1, .string (bs n1), .int .i64 i1, .int .i64 f1, .int .i64 t1, .int .i64 s1, .bool a1, .bool b1, .pointer (some ⟨p, o, none⟩)]] w (fun e w' => e = .returned (.bool false) ∧ Bel w.heap.size w w') := by
  have M := Lib.hid (Own.start [] w (fun _ => True) fun _ _ => trivial)
  go_enter Tryz.func36, Tryz.ntmps36
  go_wp2_with (first | ((with_reducible refine g_bx 47 2 ?_); refine l_bx rfl M.out ?_; clear M; intro g2 w' hg2 M) | ((with_reducible refine g_bx 47 3 ?_); refine l_bx rfl M.out ?_; clear M; intro g3 w' hg3 M) | ((with_reducible refine g_ld 3 ?_); refine l_ld1 O_int rfl M.out (by repeat constructor) (by exact rfl) ?_) | ((with_reducible refine g_ld 9 ?_); refine l_ld1 O_str rfl M.out (by repeat constructor) (by exact rfl) ?_) | ((with_reducible refine g_ld 2 ?_); refine l_ld1 O_i64 rfl M.out (by repeat constructor) (by exact rfl) ?_) | ((with_reducible refine g_ld 4 ?_); refine l_ld1 O_bool rfl M.out (by repeat constructor) (by exact rfl) ?_) | ((with_reducible refine g_ld 45 ?_); refine l_ld1 O_pex rfl M.out (by repeat constructor) (by exact rfl) ?_) | ((with_reducible refine q_gl 3 ?_); refine q_ld1g O_int rfl rfl M.out (by repeat constructor) (by exact rfl) ?_) | ((with_reducible refine q_gl 9 ?_); refine q_ld1g O_str rfl rfl M.out (by repeat constructor) (by exact rfl) ?_) | ((with_reducible refine q_gl 2 ?_); refine q_ld1g O_i64 rfl rfl M.out (by repeat constructor) (by exact rfl) ?_) | ((with_reducible refine q_gl 4 ?_); refine q_ld1g O_bool rfl rfl M.out (by repeat constructor) (by exact rfl) ?_) | ((with_reducible refine q_gl 45 ?_); refine q_ld1g O_pex rfl rfl M.out (by repeat constructor) (by exact rfl) ?_))
  go_ret
  exact ⟨rfl, M.out.bel0⟩
set_option maxRecDepth 100000 in
set_option maxHeartbeats 2000000 in
theorem ssel_sn (k1 i1 f1 t1 s1 : Int) (n1 : List UInt8) (a1 b1 : Bool) (p o : Nat) (w : World) : Calls Tryz.prog 36 #[.agg #[.int .i64 k1, .string (bs n1), .int .i64 i1, .int .i64 f1, .int .i64 t1, .int .i64 s1, .bool a1, .bool b1, .pointer (some ⟨p, o, none⟩)], .agg #[.int .i64 k1, .string (bs n1), .int .i64 i1, .int .i64 f1, .int .i64 t1, .int .i64 s1, .bool a1, .bool b1, .pointer none]] w (fun e w' => e = .returned (.bool false) ∧ Bel w.heap.size w w') := by
  have M := Lib.hid (Own.start [] w (fun _ => True) fun _ _ => trivial)
  go_enter Tryz.func36, Tryz.ntmps36
  go_wp2_with (first | ((with_reducible refine g_bx 47 2 ?_); refine l_bx rfl M.out ?_; clear M; intro g2 w' hg2 M) | ((with_reducible refine g_bx 47 3 ?_); refine l_bx rfl M.out ?_; clear M; intro g3 w' hg3 M) | ((with_reducible refine g_ld 3 ?_); refine l_ld1 O_int rfl M.out (by repeat constructor) (by exact rfl) ?_) | ((with_reducible refine g_ld 9 ?_); refine l_ld1 O_str rfl M.out (by repeat constructor) (by exact rfl) ?_) | ((with_reducible refine g_ld 2 ?_); refine l_ld1 O_i64 rfl M.out (by repeat constructor) (by exact rfl) ?_) | ((with_reducible refine g_ld 4 ?_); refine l_ld1 O_bool rfl M.out (by repeat constructor) (by exact rfl) ?_) | ((with_reducible refine g_ld 45 ?_); refine l_ld1 O_pex rfl M.out (by repeat constructor) (by exact rfl) ?_) | ((with_reducible refine q_gl 3 ?_); refine q_ld1g O_int rfl rfl M.out (by repeat constructor) (by exact rfl) ?_) | ((with_reducible refine q_gl 9 ?_); refine q_ld1g O_str rfl rfl M.out (by repeat constructor) (by exact rfl) ?_) | ((with_reducible refine q_gl 2 ?_); refine q_ld1g O_i64 rfl rfl M.out (by repeat constructor) (by exact rfl) ?_) | ((with_reducible refine q_gl 4 ?_); refine q_ld1g O_bool rfl rfl M.out (by repeat constructor) (by exact rfl) ?_) | ((with_reducible refine q_gl 45 ?_); refine q_ld1g O_pex rfl rfl M.out (by repeat constructor) (by exact rfl) ?_))
  go_ret
  exact ⟨rfl, M.out.bel0⟩
set_option maxRecDepth 100000 in
set_option maxHeartbeats 2000000 in
theorem ssel_true (k1 i1 f1 t1 s1 : Int) (n1 : List UInt8) (a1 b1 : Bool) (p o p2 o2 : Nat) (cs1 cs2 : List Value) (w : World) (J0 : World → Prop) (h0 : ∀ y, Kept [] w y → J0 y) (hr1 : ∀ y, J0 y → y.rangeAt p o cs1) (hr2 : ∀ y, J0 y → y.rangeAt p2 o2 cs2) (hn1 : cs1.length = 17) (hn2 : cs2.length = 17)
    (hc : ∀ y, J0 y → Calls Tryz.prog 58 #[.agg cs1.toArray, .agg cs2.toArray] y fun e w' => e = .returned (.bool true) ∧ Bel y.heap.size y w') : Calls Tryz.prog 36 #[.agg #[.int .i64 k1, .string (bs n1), .int .i64 i1, .int .i64 f1, .int .i64 t1, .int .i64 s1, .bool a1, .bool b1, .pointer (some ⟨p, o, none⟩)], .agg #[.int .i64 k1, .string (bs n1), .int .i64 i1, .int .i64 f1, .int .i64 t1, .int .i64 s1, .bool a1, .bool b1, .pointer (some ⟨p2, o2, none⟩)]] w (fun e w' => e = .returned (.bool true) ∧ Bel w.heap.size w w') := by
  have M := Lib.hid (Own.start [] w J0 h0)
  have HR1 := Lib.hid hr1
  have HR2 := Lib.hid hr2
  have HN1 := Lib.hid hn1
  have HN2 := Lib.hid hn2
  have HC := Lib.hid hc
  clear h0 hr1 hr2 hn1 hn2 hc
  go_enter Tryz.func36, Tryz.ntmps36
  go_upto_region 5 with (first | ((with_reducible refine g_bx 47 2 ?_); refine l_bx rfl M.out ?_; clear M; intro g2 w' hg2 M) | ((with_reducible refine g_bx 47 3 ?_); refine l_bx rfl M.out ?_; clear M; intro g3 w' hg3 M) | ((with_reducible refine g_ld 3 ?_); refine l_ld1 O_int rfl M.out (by repeat constructor) (by exact rfl) ?_) | ((with_reducible refine g_ld 9 ?_); refine l_ld1 O_str rfl M.out (by repeat constructor) (by exact rfl) ?_) | ((with_reducible refine g_ld 2 ?_); refine l_ld1 O_i64 rfl M.out (by repeat constructor) (by exact rfl) ?_) | ((with_reducible refine g_ld 4 ?_); refine l_ld1 O_bool rfl M.out (by repeat constructor) (by exact rfl) ?_) | ((with_reducible refine g_ld 45 ?_); refine l_ld1 O_pex rfl M.out (by repeat constructor) (by exact rfl) ?_) | ((with_reducible refine q_gl 3 ?_); refine q_ld1g O_int rfl rfl M.out (by repeat constructor) (by exact rfl) ?_) | ((with_reducible refine q_gl 9 ?_); refine q_ld1g O_str rfl rfl M.out (by repeat constructor) (by exact rfl) ?_) | ((with_reducible refine q_gl 2 ?_); refine q_ld1g O_i64 rfl rfl M.out (by repeat constructor) (by exact rfl) ?_) | ((with_reducible refine q_gl 4 ?_); refine q_ld1g O_bool rfl rfl M.out (by repeat constructor) (by exact rfl) ?_) | ((with_reducible refine q_gl 45 ?_); refine q_ld1g O_pex rfl rfl M.out (by repeat constructor) (by exact rfl) ?_))
  replace M := Lib.hid (M.out.freeze.freeze)
  replace M := Lib.hid M.out.drew
  refine tb (fun y => (J0 y ∧ Blk y g3 47 #[.int .i64 k1, .string (bs n1), .int .i64 i1, .int .i64 f1, .int .i64 t1, .int .i64 s1, .bool a1, .bool b1, .pointer (some ⟨p2, o2, none⟩)]) ∧ Blk y g2 47 #[.int .i64 k1, .string (bs n1), .int .i64 i1, .int .i64 f1, .int .i64 t1, .int .i64 s1, .bool a1, .bool b1, .pointer (some ⟨p, o, none⟩)]) M.out.now ?_
  refine tkp 0 rfl M.out.now ?_
  refine tk 1 rfl M.out.now (y_ld1 O_pex _ g2 8 rfl _ _ (fun y h => h.2) _ rfl) ?_
  refine tkp 2 rfl M.out.now ?_
  refine tk 3 rfl M.out.now (y_ldf F_Ex _ p o rfl cs1 (fun y h => HR1.out y h.1.1) HN1.out) ?_
  refine tkp 4 rfl M.out.now ?_
  refine tk 5 rfl M.out.now (y_ld1 O_pex _ g3 8 rfl _ _ (fun y h => h.1.2) _ rfl) ?_
  refine tkp 6 rfl M.out.now ?_
  refine tk 7 rfl M.out.now (y_ldf F_Ex _ p2 o2 rfl cs2 (fun y h => HR2.out y h.1.1) HN2.out) ?_
  refine tr [8] ?_
  refine rdy_call (HC.out _ M.out.now.1.1) (i := 8) (op := .call _) rfl (by go_simp) ?_ ?_
  · rintro e_ w' ⟨rfl, hb⟩; replace M := Lib.hid (M.out.bel hb); clear hb; refine ⟨_, rfl, ?_⟩; refine ⟨M.out.now, tn ?_⟩
    refine tkp 9 rfl M.out.now ?_
    refine te ?_
    go_wp2
    go_ret
    exact ⟨rfl, M.out.bel0⟩
  exact .nil
set_option maxRecDepth 100000 in
set_option maxHeartbeats 2000000 in
theorem ssel_false (k1 i1 f1 t1 s1 : Int) (n1 : List UInt8) (a1 b1 : Bool) (p o p2 o2 : Nat) (cs1 cs2 : List Value) (w : World) (J0 : World → Prop) (h0 : ∀ y, Kept [] w y → J0 y) (hr1 : ∀ y, J0 y → y.rangeAt p o cs1) (hr2 : ∀ y, J0 y → y.rangeAt p2 o2 cs2) (hn1 : cs1.length = 17) (hn2 : cs2.length = 17)
    (hc : ∀ y, J0 y → Calls Tryz.prog 58 #[.agg cs1.toArray, .agg cs2.toArray] y fun e w' => e = .returned (.bool false) ∧ Bel y.heap.size y w') : Calls Tryz.prog 36 #[.agg #[.int .i64 k1, .string (bs n1), .int .i64 i1, .int .i64 f1, .int .i64 t1, .int .i64 s1, .bool a1, .bool b1, .pointer (some ⟨p, o, none⟩)], .agg #[.int .i64 k1, .string (bs n1), .int .i64 i1, .int .i64 f1, .int .i64 t1, .int .i64 s1, .bool a1, .bool b1, .pointer (some ⟨p2, o2, none⟩)]] w (fun e w' => e = .returned (.bool false) ∧ Bel w.heap.size w w') := by
  have M := Lib.hid (Own.start [] w J0 h0)
  have HR1 := Lib.hid hr1
  have HR2 := Lib.hid hr2
  have HN1 := Lib.hid hn1
  have HN2 := Lib.hid hn2
  have HC := Lib.hid hc
  clear h0 hr1 hr2 hn1 hn2 hc
  go_enter Tryz.func36, Tryz.ntmps36
  go_upto_region 5 with (first | ((with_reducible refine g_bx 47 2 ?_); refine l_bx rfl M.out ?_; clear M; intro g2 w' hg2 M) | ((with_reducible refine g_bx 47 3 ?_); refine l_bx rfl M.out ?_; clear M; intro g3 w' hg3 M) | ((with_reducible refine g_ld 3 ?_); refine l_ld1 O_int rfl M.out (by repeat constructor) (by exact rfl) ?_) | ((with_reducible refine g_ld 9 ?_); refine l_ld1 O_str rfl M.out (by repeat constructor) (by exact rfl) ?_) | ((with_reducible refine g_ld 2 ?_); refine l_ld1 O_i64 rfl M.out (by repeat constructor) (by exact rfl) ?_) | ((with_reducible refine g_ld 4 ?_); refine l_ld1 O_bool rfl M.out (by repeat constructor) (by exact rfl) ?_) | ((with_reducible refine g_ld 45 ?_); refine l_ld1 O_pex rfl M.out (by repeat constructor) (by exact rfl) ?_) | ((with_reducible refine q_gl 3 ?_); refine q_ld1g O_int rfl rfl M.out (by repeat constructor) (by exact rfl) ?_) | ((with_reducible refine q_gl 9 ?_); refine q_ld1g O_str rfl rfl M.out (by repeat constructor) (by exact rfl) ?_) | ((with_reducible refine q_gl 2 ?_); refine q_ld1g O_i64 rfl rfl M.out (by repeat constructor) (by exact rfl) ?_) | ((with_reducible refine q_gl 4 ?_); refine q_ld1g O_bool rfl rfl M.out (by repeat constructor) (by exact rfl) ?_) | ((with_reducible refine q_gl 45 ?_); refine q_ld1g O_pex rfl rfl M.out (by repeat constructor) (by exact rfl) ?_))
  replace M := Lib.hid (M.out.freeze.freeze)
  replace M := Lib.hid M.out.drew
  refine tb (fun y => (J0 y ∧ Blk y g3 47 #[.int .i64 k1, .string (bs n1), .int .i64 i1, .int .i64 f1, .int .i64 t1, .int .i64 s1, .bool a1, .bool b1, .pointer (some ⟨p2, o2, none⟩)]) ∧ Blk y g2 47 #[.int .i64 k1, .string (bs n1), .int .i64 i1, .int .i64 f1, .int .i64 t1, .int .i64 s1, .bool a1, .bool b1, .pointer (some ⟨p, o, none⟩)]) M.out.now ?_
  refine tkp 0 rfl M.out.now ?_
  refine tk 1 rfl M.out.now (y_ld1 O_pex _ g2 8 rfl _ _ (fun y h => h.2) _ rfl) ?_
  refine tkp 2 rfl M.out.now ?_
  refine tk 3 rfl M.out.now (y_ldf F_Ex _ p o rfl cs1 (fun y h => HR1.out y h.1.1) HN1.out) ?_
  refine tkp 4 rfl M.out.now ?_
  refine tk 5 rfl M.out.now (y_ld1 O_pex _ g3 8 rfl _ _ (fun y h => h.1.2) _ rfl) ?_
  refine tkp 6 rfl M.out.now ?_
  refine tk 7 rfl M.out.now (y_ldf F_Ex _ p2 o2 rfl cs2 (fun y h => HR2.out y h.1.1) HN2.out) ?_
  refine tr [8] ?_
  refine rdy_call (HC.out _ M.out.now.1.1) (i := 8) (op := .call _) rfl (by go_simp) ?_ ?_
  · rintro e_ w' ⟨rfl, hb⟩; replace M := Lib.hid (M.out.bel hb); clear hb; refine ⟨_, rfl, ?_⟩; refine ⟨M.out.now, tn ?_⟩
    refine tkp 9 rfl M.out.now ?_
    refine te ?_
    go_wp2
    go_ret
    exact ⟨rfl, M.out.bel0⟩
  exact .nil

end

end Go.Proofs.YtpcbcodmocmilaaGreatDoor
