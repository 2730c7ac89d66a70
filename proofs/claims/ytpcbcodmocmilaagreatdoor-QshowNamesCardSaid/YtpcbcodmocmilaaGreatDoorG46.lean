/- G46: To, Tr, Hf, Rb, Rc, Rd, Fc, Ea joined. -/
import Derived.Deep.RegionHeld3
import Derived.Lib.ItoaMem
import Derived.Test.YtpcbcodmocmilaaGreatDoorG16
import Derived.Test.YtpcbcodmocmilaaGreatDoorG43
import Derived.Test.YtpcbcodmocmilaaGreatDoorG42
import Derived.Test.YtpcbcodmocmilaaGreatDoorHe
import Derived.Test.YtpcbcodmocmilaaGreatDoorQj
import Derived.Test.YtpcbcodmocmilaaGreatDoorG19
import Derived.Test.YtpcbcodmocmilaaGreatDoorG41
import Derived.Test.YtpcbcodmocmilaaGreatDoorZm
namespace Go.Proofs.YtpcbcodmocmilaaGreatDoor
open Go.RowKit
/- Queries read, plain: more tokens behind change nothing of what is read ahead of them (no word of a dump). -/
section

/-- More tokens behind. -/
def appS (t : PSt) (xs : List TokD) : PSt := ⟨t.toks ++ xs, t.fe, t.fa⟩
/-- The same is read, where something is left. -/
def Ext {α : Type} (xs : List TokD) (a b : α × PSt) : Prop := a.2.fe = 0 → a.2.toks ≠ [] → b = (a.1, appS a.2 xs)
section
variable {E E' : Int} {t : PSt} {xs : List TokD}
theorem ne_of_le {s t : PSt} (h : s.toks ≠ []) (hl : s.toks.length ≤ t.toks.length) : t.toks ≠ [] := fun e => by
  rw [e] at hl
  exact h (List.eq_nil_of_length_eq_zero (by simpa using hl))
end
section
variable {α β γ : Type} {xs : List TokD} {a a' : α × PSt}
theorem Ext.map (h : Ext xs a a') (g : α → β) : Ext xs (g a.1, a.2) (g a'.1, a'.2) := fun h1 h2 => by rw [h h1 h2]
theorem Ext.empty {b : α × PSt} (h : a.2.toks = []) : Ext xs a b := fun _ h2 => absurd h h2
theorem Ext.nil {t : PSt} {b : α × PSt} (h : t.toks = []) (hl : a.2.toks.length ≤ t.toks.length) : Ext xs a b := .empty (List.eq_nil_of_length_eq_zero (by rw [h] at hl; simpa using hl))
theorem Ext.post (h : Ext xs a a') {u u' : PSt → PSt} (hb : ∀ s, s.fe ≠ 0 → u s = s) (hl : ∀ s, (u s).toks.length ≤ s.toks.length) (hu : ∀ s, s.toks ≠ [] → u' (appS s xs) = appS (u s) xs) : Ext xs (a.1, u a.2) (a'.1, u' a'.2) := fun h1 h2 => by
  have hf : a.2.fe = 0 := Classical.byContradiction fun hf => by simp only at h1; rw [hb _ hf] at h1; exact hf h1
  have hn : a.2.toks ≠ [] := ne_of_le h2 (hl _)
  rw [h hf hn]
  simp only
  rw [hu _ hn]
theorem Ext.seq (h : Ext xs a a') {b b' : PSt → β × PSt} (g : α → β → γ) (h2 : ∀ s, s.toks.length ≤ a.2.toks.length → Ext xs (b s) (b' (appS s xs))) (hb : ∀ s, s.fe ≠ 0 → (b s).2 = s) (hl : ∀ s, (b s).2.toks.length ≤ s.toks.length) :
    Ext xs (g a.1 (b a.2).1, (b a.2).2) (g a'.1 (b' a'.2).1, (b' a'.2).2) := fun k1 k2 => by
  have hf : a.2.fe = 0 := Classical.byContradiction fun hf => by simp only at k1; rw [hb _ hf] at k1; exact hf k1
  have hn : a.2.toks ≠ [] := ne_of_le k2 (hl _)
  rw [h hf hn]
  simp only
  rw [h2 a.2 (Nat.le_refl _) k1 k2]
end
/-- Two readers of expressions. -/
def ExtP (xs : List TokD) (P P' : Nat → PSt → ExprT × PSt) : Prop := ∀ d t, Ext xs (P d t) (P' d (appS t xs))
section
variable {E E' : Int} {xs : List TokD} {P P' : Nat → PSt → ExprT × PSt} (d : Nat)
variable (hL : LeP P) (h : ExtP xs P P')
include h hL
end
end
/- Queries read, plain: two queries one behind the other; a query cut (no word of a dump). -/
section

theorem parse2_of {m : Bool} {E : Int} {t : PSt} {p : PathT} {s : PSt} (h : parse1 m E t = (p, s)) (h1 : s.toks = []) (h2 : s.fe = 0) : parse2 m E t = .ok p := by
  unfold parse2
  rw [h]
  have ho : ovS s = true := by unfold ovS; rw [h1]; simp
  simp only
  rw [ho, if_pos rfl, if_pos h2]
end
/- What is written of a query is the same query; two that are written alike are one; plain. -/
section

section
variable {S : List UInt8 → Prop}
theorem RdE.le {P : Nat → PSt → ExprT × PSt} {T : Bool → ExprT → List TokD} {W : ExprT → Prop} {d d' : Nat} (h : RdE P T W d) (hd : d ≤ d') : RdE P T W d' := fun e h1 => h e (by omega)
theorem side_head {T : Bool → ExprT → List TokD} {W : ExprT → Prop} {x : SideT} (h : WfSide S W x) (g : Bool) (r : List TokD) (fa : Int) {l : List UInt8} (h1 : l ≠ [36]) (h2 : l ≠ [64]) : isS l ⟨sideTk T g x ++ r, 0, fa⟩ = false := by
  cases h with
  | path p a =>
    show isS l ⟨sgT [if p.abs then 36 else 64] g :: (p.segs.flatMap (segTk T) ++ r), 0, fa⟩ = false
    cases p.abs with
    | true => exact is_ng (l := [36]) (fun e => h1 e.symm) _
    | false => exact is_ng (l := [64]) (fun e => h2 e.symm) _
  | null => exact is_k (x := nmT [110, 117, 108, 108] g) (by simp [nmT]) l
  | tru => exact is_k (x := nmT [116, 114, 117, 101] g) (by simp [nmT]) l
  | fls => exact is_k (x := nmT [102, 97, 108, 115, 101] g) (by simp [nmT]) l
  | num n a => exact is_k (x := nbT n g) (by simp [nbT]) l
  | str s a => exact is_k (x := stT s g) (by simp [stT]) l
theorem path_head {T : Bool → ExprT → List TokD} (p : PathT) (g : Bool) (r : List TokD) (fa : Int) {l : List UInt8} (h1 : l ≠ [36]) (h2 : l ≠ [64]) : isS l ⟨pathTk T g p ++ r, 0, fa⟩ = false := by
  show isS l ⟨sgT [if p.abs then 36 else 64] g :: (p.segs.flatMap (segTk T) ++ r), 0, fa⟩ = false
  cases p.abs with
  | true => exact is_ng (l := [36]) (fun e => h1 e.symm) _
  | false => exact is_ng (l := [64]) (fun e => h2 e.symm) _
theorem fit_or {d : Nat} {l : List ExprT} (h : Fit d (mkE 0 l)) : (∀ k ∈ l, k.kind ≠ 0 → Fit d k) ∧ (∀ k ∈ l, k.kind = 0 → d + 1 ≤ 32 ∧ Fit (d + 1) k) := by
  generalize hx : mkE 0 l = x at h
  cases h with
  | or d l' a b c => simp only [mkE, ExprT.mk.injEq, true_and, and_true] at hx; subst hx; exact ⟨a, fun k hk h => ⟨b k hk h, c k hk h⟩⟩
  | and => simp [mkE] at hx
  | not => simp [mkE] at hx
  | test => simp [mkE, tstE] at hx
  | cmp => simp [mkE] at hx
theorem fit_and {d : Nat} {l : List ExprT} (h : Fit d (mkE 1 l)) : (∀ k ∈ l, ¬ (k.kind = 0 ∨ k.kind = 1) → Fit d k) ∧ (∀ k ∈ l, k.kind = 0 ∨ k.kind = 1 → d + 1 ≤ 32 ∧ Fit (d + 1) k) := by
  generalize hx : mkE 1 l = x at h
  cases h with
  | or => simp [mkE] at hx
  | and d l' a b c => simp only [mkE, ExprT.mk.injEq, true_and, and_true] at hx; subst hx; exact ⟨a, fun k hk h => ⟨b k hk h, c k hk h⟩⟩
  | not => simp [mkE] at hx
  | test => simp [mkE, tstE] at hx
  | cmp => simp [mkE] at hx
theorem fit_not {d : Nat} {k : ExprT} (h : Fit d (mkE 2 [k])) : d + 1 ≤ 32 ∧ (k.kind = 3 → Fit (d + 1) k) ∧ (k.kind ≠ 3 → d + 2 ≤ 32 ∧ Fit (d + 2) k) := by
  generalize hx : mkE 2 [k] = x at h
  cases h with
  | or => simp [mkE] at hx
  | and => simp [mkE] at hx
  | not d k' a b c e => simp only [mkE, ExprT.mk.injEq, true_and, and_true, List.cons.injEq] at hx; subst hx; exact ⟨a, b, fun h => ⟨c h, e h⟩⟩
  | test => simp [mkE, tstE] at hx
  | cmp => simp [mkE] at hx
theorem fit_test {d : Nat} {p : PathT} (h : Fit d (tstE p)) : FitP d p := by
  generalize hx : tstE p = x at h
  cases h with
  | or => simp [mkE, tstE] at hx
  | and => simp [mkE, tstE] at hx
  | not => simp [mkE, tstE] at hx
  | test d p' a b => simp only [tstE, ExprT.mk.injEq, true_and, and_true] at hx; subst hx; exact fun s hs y hy e he => ⟨a s hs y hy e he, b s hs y hy e he⟩
  | cmp => simp [tstE] at hx
theorem fit_cmp {d : Nat} {op : Int} {a b : SideT} (h : Fit d ⟨4, [], path0, op, a, b⟩) : FitP d a.p ∧ FitP d b.p := by
  generalize hx : (⟨4, [], path0, op, a, b⟩ : ExprT) = x at h
  cases h with
  | or => simp [mkE] at hx
  | and => simp [mkE] at hx
  | not => simp [mkE] at hx
  | test => simp [tstE] at hx
  | cmp d op' a' b' a1 a2 b1 b2 =>
    simp only [ExprT.mk.injEq, true_and] at hx
    obtain ⟨_, rfl, rfl⟩ := hx
    exact ⟨fun s hs y hy e he => ⟨a1 s hs y hy e he, a2 s hs y hy e he⟩, fun s hs y hy e he => ⟨b1 s hs y hy e he, b2 s hs y hy e he⟩⟩
theorem main_r (m : Bool) (E : Int) : ∀ (N k : Nat), k ≤ N → ∀ x, WfN S k x → ∀ n d, 32 ≤ n + d → d ≤ 32 → Fit d x → Reads3 m E (orS m E n) (exprTk k) d x
  | 0, k, hk, _, h, _, _, _, _, _ => by
    obtain rfl : k = 0 := by omega
    exact h.elim
  | N + 1, 0, _, _, h, _, _, _, _, _ => h.elim
  | N + 1, k + 1, hk, x, h, n, d, hn, hd, hf => by
    have h' : WfX S (WfN S k) x := h
    have ih := fun j (hj : j ≤ N) => main_r m E N j hj
    have hRP : ∀ j, j ≤ N → RdE (orS m E n) (exprTk j) (WfN S j) d := fun j hj d' h1 h2 g e r fa he hfe hr => by
      obtain ⟨n', rfl⟩ : ∃ n', n = n' + 1 := ⟨n - 1, by omega⟩
      exact (ih j hj e he n' d' (by omega) h2 hfe).1 g r fa hr
    have hP := hRP k (by omega)
    have rnd : ∀ (e : ExprT), d + 1 ≤ 32 → WfN S k e → Fit (d + 1) e → ∀ (g : Bool) (r : List TokD) (fa : Int), oneF m E (orS m E n) d ⟨sgT [40] g :: (exprTk k false e ++ sgT [41] false :: r), 0, fa⟩ = (e, ⟨r, 0, fa⟩) := fun e h1 h2 h3 g r fa => by
      unfold oneF
      rw [if_neg (by rw [is_ng (by decide)]; simp), if_pos (is_sg _ _), round_r hP h1 h2 h3]
    cases h' with
    | or l a b =>
      obtain ⟨f1, f2⟩ := fit_or hf
      refine ⟨fun g r fa hr => ?_, fun hh => absurd rfl hh, fun hh => absurd (.inl rfl) hh⟩
      rw [tk_or]
      refine list_r (hr.is (by decide)) (fun g k' => roundTk (exprTk k) (k'.kind == 0) g k') l a g fun g k' hk' r' hr' => ?_
      have hst : Stop LA r' := by
        rcases hr' with rfl | ⟨r'', rfl⟩
        · exact hr.mono (by decide)
        · exact Stop.sg _ _ _ (by decide)
      by_cases h0 : k'.kind = 0
      · obtain ⟨e1, e2⟩ := f2 k' hk' h0
        rw [show roundTk (exprTk k) (k'.kind == 0) g k' ++ r' = sgT [40] g :: (exprTk k false k' ++ sgT [41] false :: r') from by unfold roundTk; rw [if_pos (by simpa using h0)]; simp]
        exact list_1 (rnd k' e1 (b k' hk') e2 g r' fa) (hst.is (by decide))
      · rw [show roundTk (exprTk k) (k'.kind == 0) g k' = exprTk k g k' from by unfold roundTk; rw [if_neg (by simpa using h0)]]
        exact (ih k (by omega) k' (b k' hk') n d hn hd (f1 k' hk' h0)).2.1 h0 g r' fa hst
    | and l a b =>
      obtain ⟨f1, f2⟩ := fit_and hf
      have hB : ∀ g r fa, Stop LA r → andF m E (orS m E n) d ⟨exprTk (k + 1) g (mkE 1 l) ++ r, 0, fa⟩ = (mkE 1 l, ⟨r, 0, fa⟩) := fun g r fa hr => by
        rw [tk_and]
        refine list_r (hr.is (by decide)) (fun g k' => roundTk (exprTk k) (k'.kind == 0 || k'.kind == 1) g k') l a g fun g k' hk' r' hr' => ?_
        have hst : Stop L1 r' := by
          rcases hr' with rfl | ⟨r'', rfl⟩
          · exact hr.mono (by decide)
          · exact Stop.sg _ _ _ (by decide)
        by_cases h0 : k'.kind = 0 ∨ k'.kind = 1
        · obtain ⟨e1, e2⟩ := f2 k' hk' h0
          rw [show roundTk (exprTk k) (k'.kind == 0 || k'.kind == 1) g k' ++ r' = sgT [40] g :: (exprTk k false k' ++ sgT [41] false :: r') from by unfold roundTk; rw [if_pos (by simpa using h0)]; simp]
          exact rnd k' e1 (b k' hk') e2 g r' fa
        · rw [show roundTk (exprTk k) (k'.kind == 0 || k'.kind == 1) g k' = exprTk k g k' from by unfold roundTk; rw [if_neg (by simpa using h0)]]
          exact (ih k (by omega) k' (b k' hk') n d hn hd (f1 k' hk' h0)).2.2 h0 g r' fa hst
      exact ⟨fun g r fa hr => list_1 (hB g r fa (hr.mono (by decide))) (hr.is (by decide)), fun _ => hB, fun hh => absurd (.inr rfl) hh⟩
    | not k' a =>
      obtain ⟨f0, f1, f2⟩ := fit_not hf
      refine reads_one fun g r fa hr => ?_
      rw [tk_not]
      show oneF m E (orS m E n) d ⟨sgT [33] g :: (roundTk (exprTk k) (k'.kind != 3) false k' ++ r), 0, fa⟩ = _
      unfold oneF
      rw [if_pos (is_sg _ _), opx E f0]
      by_cases h3 : k'.kind = 3
      · rw [show roundTk (exprTk k) (k'.kind != 3) false k' = exprTk k false k' from by unfold roundTk; rw [if_neg (by simpa using h3)]]
        obtain ⟨j, rfl⟩ : ∃ j, k = j + 1 := by
          cases k with
          | zero => exact a.elim
          | succ j => exact ⟨j, rfl⟩
        have a' : WfX S (WfN S j) k' := a
        have ff := f1 h3
        cases a' with
        | or => simp [mkE] at h3
        | and => simp [mkE] at h3
        | not => simp [mkE] at h3
        | cmp => simp at h3
        | test p ap =>
          rw [tk_test]
          obtain ⟨p1, p2⟩ := path_r (E := E) ((hRP j (by omega)).le (Nat.le_add_right d 1)) ap (fit_test ff) false fa (hr.mono (by decide))
          unfold notF
          rw [if_neg (by rw [path_head p _ _ _ (by decide) (by decide)]; simp), if_pos p2, p1]
      · obtain ⟨e1, e2⟩ := f2 h3
        rw [show roundTk (exprTk k) (k'.kind != 3) false k' ++ r = sgT [40] false :: (exprTk k false k' ++ sgT [41] false :: r) from by unfold roundTk; rw [if_pos (by simpa using h3)]; simp]
        unfold notF
        rw [if_pos (is_sg _ _), round_r (hP.le (Nat.le_add_right d 1)) e1 a e2]
    | test p a =>
      refine reads_one fun g r fa hr => ?_
      rw [tk_test]
      unfold oneF
      rw [if_neg (by rw [path_head p _ _ _ (by decide) (by decide)]; simp), if_neg (by rw [path_head p _ _ _ (by decide) (by decide)]; simp), test_r hP a (fit_test hf) g fa hr]
    | cmp op a b a1 a2 a3 a4 a5 a6 =>
      obtain ⟨f1, f2⟩ := fit_cmp hf
      refine reads_one fun g r fa hr => ?_
      rw [tk_cmp, show sideTk (exprTk k) g a ++ (sgT (opB op) true :: sideTk (exprTk k) true b) ++ r = sideTk (exprTk k) g a ++ (sgT (opB op) true :: (sideTk (exprTk k) true b ++ r)) from by simp]
      unfold oneF
      rw [if_neg (by rw [side_head a3 _ _ _ (by decide) (by decide)]; simp), if_neg (by rw [side_head a3 _ _ _ (by decide) (by decide)]; simp), cmp_r hP a1 a2 a3 a4 a5 a6 f1 f2 g fa hr]
/-- The tokens of a query that is written are that query. -/
theorem read_back (m : Bool) (E : Int) {p : PathT} (hp : WfP S (WfN S 200) p) (hf : FitP 0 p) (ha : p.abs = true) : parse2 m E ⟨showTk p, 0, 0⟩ = .ok p := by
  have hP : RdE (orS m E 34) (exprTk 200) (WfN S 200) 0 := fun d' h1 h2 g e r fa he hfe hr => (main_r (S := S) m E 200 200 (Nat.le_refl _) e he 33 d' (by omega) h2 hfe).1 g r fa hr
  obtain ⟨k1, _⟩ := path_r (E := E) hP hp hf false (r := []) 0 (.inl rfl)
  rw [List.append_nil] at k1
  refine parse2_of (s := ⟨[], 0, 0⟩) ?_ rfl rfl
  unfold parse1
  rw [show isS [36] ⟨showTk p, 0, 0⟩ = true from by
    show isS [36] ⟨sgT [if p.abs then 36 else 64] false :: p.segs.flatMap (segTk (exprTk 200)), 0, 0⟩ = true
    rw [ha]; exact is_sg _ _]
  exact k1
end
theorem ss_right {N : Nat} : ∀ s, SS N s → runU 0 s = 0 := fun _ h => h.2
end
/- ref17: the comparing of trees that are one (printed by gen_same.py). -/
section
open Go.RowKit

theorem Bel.some {W w1 : World} (hb : Bel W.heap.size W w1) {a : Addr} {v : Value} (h : W.cell? a = some v) : w1.cell? a = some v := by
  by_cases hl : a.block < W.heap.size
  · exact (hb.cell hl).trans h
  · exfalso
    have hn : W.heap[a.block]? = none := Array.getElem?_eq_none (by omega)
    unfold World.cell? at h
    rw [hn] at h
    simp at h
theorem RowG.at_ {α : Type} {K : Nat → Prop} {k : Nat} {R : List Value → α → Prop} {w : World} {A : Option Addr} {n c : Nat} {l : List α} (h : RowG K k R w (.slice A n c) l) {i : Nat} {x : α} (hx : l[i]? = some x) :
    ∃ b off, ∃ cs : List Value, A = some ⟨b, off, none⟩ ∧ b < w.heap.size ∧ cs.length = k ∧ (∀ (j : Nat) u, cs[j]? = some u → w.cell? ⟨b, off + i * k + j, none⟩ = some u) ∧ R cs x := by
  obtain ⟨A', cap, e1, -, h3⟩ := h
  obtain ⟨b, off, rfl, hK, hb, hc⟩ := h3.resolve_left (by intro e; rw [e] at hx; simp at hx)
  obtain ⟨cs, hl, hcs, hr⟩ := hc i x hx
  exact ⟨b, off, cs, (Value.slice.inj e1).1, hb, hl, hcs, hr⟩
end
/- ref17: Same (over sameSel) (printed by gen_same2.py). -/
section
open Go.RowKit

theorem RowG.cap {α : Type} {K : Nat → Prop} {k : Nat} {R : List Value → α → Prop} {w : World} {A : Option Addr} {n c : Nat} {l : List α} (h : RowG K k R w (.slice A n c) l) : l.length ≤ 9223372036854775807 := by
  obtain ⟨A', cap, e, h2, -⟩ := h
  omega
/-- A selector in a row. -/
theorem RowG.sel {K : Nat → Prop} {R : List Value → ExprT → Prop} {w : World} {A : Option Addr} {n c : Nat} {l : List SelT} (h : RowG K 9 (SelC K R w) w (.slice A n c) l) {i : Nat} {x : SelT} (hx : l[i]? = some x) :
    ∃ b off pv, A = some ⟨b, off, none⟩ ∧ b < w.heap.size ∧ (w.cell? ⟨b, off + i * 9, none⟩ = some (.int .i64 x.kind) ∧ w.cell? ⟨b, off + i * 9 + 1, none⟩ = some (.string (bs x.name)) ∧ w.cell? ⟨b, off + i * 9 + 2, none⟩ = some (.int .i64 x.index) ∧ w.cell? ⟨b, off + i * 9 + 3, none⟩ = some (.int .i64 x.fr) ∧ w.cell? ⟨b, off + i * 9 + 4, none⟩ = some (.int .i64 x.tt) ∧ w.cell? ⟨b, off + i * 9 + 5, none⟩ = some (.int .i64 x.step) ∧ w.cell? ⟨b, off + i * 9 + 6, none⟩ = some (.bool x.hf) ∧ w.cell? ⟨b, off + i * 9 + 7, none⟩ = some (.bool x.ht) ∧ w.cell? ⟨b, off + i * 9 + 8, none⟩ = some pv) ∧ PtrG K R w pv x.f := by
  obtain ⟨b, off, cs, rfl, hb, -, hc, pv, rfl, hp⟩ := h.at_ hx
  exact ⟨b, off, pv, rfl, hb, ⟨hc 0 _ rfl, hc 1 _ rfl, hc 2 _ rfl, hc 3 _ rfl, hc 4 _ rfl, hc 5 _ rfl, hc 6 _ rfl, hc 7 _ rfl, hc 8 _ rfl⟩, hp⟩
end
/- ref17: sameExpr, and Same of one tree (printed by gen_same3.py). -/
section
open Go.RowKit

end
/- law18: QshowBack (printed by gen_fc.py). -/
section
open Go.RowKit

theorem q_ldS {P : Program} {X : List Nat} {w0 w : World} {L : List BlkE} {rs : List RowE} {J : World → Prop} {ops : Array Oper} {rest : List Oper} {a : Act} {Q : Exit → Act → World → Prop} {dst : Option Tmp} {tt : TypeId} {pos : String} {af : Array Edge} {T : TypeId} {n : Nat} {z : Array Value} (F : TyF P T n z) {gd : Nat × Bool} {x : Operand} {g : Nat} {T' : TypeId} {cs : Array Value} (hw : Region.wanted ⟨dst, .load T x, tt, pos, af, some gd⟩ (yielded ops a.tmps) = true) (hx : a.eval x = .pointer (some ⟨g, 0, none⟩)) (M : Own X w0 w L rs J) (hm : (g, T', cs) ∈ L) (hn : cs.size = n)
    (h : wpList P ops Q rest (a.put dst (.agg cs)) w) : wpList P ops Q (⟨dst, .load T x, tt, pos, af, some gd⟩ :: rest) a w := by
  obtain ⟨d, hu, hd⟩ := F.u
  exact wpList_step fun _ hK => by
    rw [if_pos hw]
    exact wp_load_row T x rfl g hx T' cs (0, 0) d (M.blk _ hm) hu (by cases d <;> first | rfl | cases hd) (by rw [hn]; exact F.s) (hK _ _ h)
end
/- Strings put together: laws; laceworkref18.Int, laceworkref11.Between (printed by gen_ea.py). -/
section
open Go.RowKit

section
variable {X : List Nat} {w0 w : World} {L : List BlkE} {rs : List RowE} {J S : World → Prop} {ops : Array Oper} {rest : List Oper} {a : Act} {Q : Exit → Act → World → Prop} {K : Act → World → Prop} {md : Region.Mode} {fuel i : Nat} {listed : Array Bool} {is : List Nat} {dst : Option Tmp} {tt : TypeId} {pos : String} {af : Array Edge} {gd : Option (Nat × Bool)}
theorem g_cat {x y : Operand} (h : wpList Tryz.prog ops Q (⟨dst, .binOp .add 9 x y 9, tt, pos, af, none⟩ :: rest) a w) : wpList Tryz.prog ops Q (⟨dst, .binOp .add 9 x y 9, tt, pos, af, none⟩ :: rest) a w := h
theorem g_cv {x : Operand} (h : wpList Tryz.prog ops Q (⟨dst, .convert 78 9 x, tt, pos, af, none⟩ :: rest) a w) : wpList Tryz.prog ops Q (⟨dst, .convert 78 9 x, tt, pos, af, none⟩ :: rest) a w := h
theorem o_cat {x y : Operand} {l m : List UInt8} (hx : a.eval x = .string (bs l)) (hy : a.eval y = .string (bs m)) (hb : l.length + m.length ≤ 4000000000) (h : K (a.put dst (.string (bs (l ++ m)))) w) : Oper.wp Tryz.prog ⟨dst, .binOp .add 9 x y 9, tt, pos, af, gd⟩ a w K Q := by
  unfold Oper.wp execOp
  simp only [hx, hy]
  go_simp
  rw [if_neg (show ¬ 9223372036854775807 < (bs l).size + (bs m).size by rw [bs_size2, bs_size2]; omega), bs_app2]
  exact h
theorem l_cat {x y : Operand} {l m : List UInt8} (hx : a.eval x = .string (bs l)) (hy : a.eval y = .string (bs m)) (hb : l.length + m.length ≤ 4000000000) (h : wpList Tryz.prog ops Q rest (a.put dst (.string (bs (l ++ m)))) w) : wpList Tryz.prog ops Q (⟨dst, .binOp .add 9 x y 9, tt, pos, af, none⟩ :: rest) a w :=
  wpList_plain rfl fun _ hK => o_cat hx hy hb (hK _ _ h)
theorem nums_bs (l : List UInt8) : strOfNums (l.map fun c => (c.toNat : Int)) = bs l := by
  unfold strOfNums bs
  rw [List.map_map]
  congr 2
  conv => rhs; rw [← List.map_id l]
  exact List.map_congr_left fun c _ => by simp
theorem o_cv {x : Operand} {k n c : Nat} {T : TypeId} {l : List UInt8} {cs : Array Value} (hx : a.eval x = .slice (some ⟨k, 0, none⟩) n c) (hb : Blk w k T cs) (hcs : cs = (byC l).toArray) (hn : l.length = n) (h : K (a.put dst (.string (bs l))) w) : Oper.wp Tryz.prog ⟨dst, .convert 78 9 x, tt, pos, af, gd⟩ a w K Q := by
  have hr : (convert 78 9 (.slice (some ⟨k, 0, none⟩) n c)).run Tryz.prog w = .ok (.string (bs l)) w := by
    rw [← nums_bs]
    refine run_convert_bytes_arg (P := Tryz.prog) _ 78 5 Tryz.underlying78 Tryz.underlying5 k 0 n c _ (by simpa using hn) (fun i hi => ?_) 9 Tryz.underlying9
    rw [Nat.zero_add, hb.cell i, hcs]
    unfold byC Lib.byteCells
    simp [List.getD, List.getElem?_eq_getElem (show i < l.length by omega)]
  unfold Oper.wp execOp
  simp only [hx]
  go_simp
  exact h
set_option maxRecDepth 100000 in
theorem l_cv {x : Operand} {k n c : Nat} {T : TypeId} {l : List UInt8} {cs : Array Value} (hx : a.eval x = .slice (some ⟨k, 0, none⟩) n c) (M : Own X w0 w L rs J) (hm : (k, T, cs) ∈ L) (hcs : cs = (byC l).toArray) (hn : l.length = n) (h : wpList Tryz.prog ops Q rest (a.put dst (.string (bs l))) w) : wpList Tryz.prog ops Q (⟨dst, .convert 78 9 x, tt, pos, af, none⟩ :: rest) a w :=
  wpList_plain rfl fun _ hK => o_cv hx (M.blk _ hm) hcs hn (hK _ _ h)
set_option maxRecDepth 100000 in
theorem r_cv {x : Operand} {k n c : Nat} {T : TypeId} {l : List UInt8} {cs : Array Value} (ho : ops[i]? = some ⟨dst, .convert 78 9 x, tt, pos, af, none⟩) (hx : a.eval x = .slice (some ⟨k, 0, none⟩) n c) (M : Own X w0 w L rs J) (hm : (k, T, cs) ∈ L) (hcs : cs = (byC l).toArray) (hn : l.length = n)
    (h : S w ∧ wpAnyH Tryz.prog md ops Q S fuel (listed.setIfInBounds i true) (a.put dst (.string (bs l))) w) (hs : AllReadyH Tryz.prog md ops Q S fuel listed a w is) : AllReadyH Tryz.prog md ops Q S fuel listed a w (i :: is) :=
  rdy ho rfl (fun _ hK => o_cv hx (M.blk _ hm) hcs hn (hK.out _ _ h.1 fun _ => h.2)) hs
end

end

end Go.Proofs.YtpcbcodmocmilaaGreatDoor
