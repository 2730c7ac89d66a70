/- RG27: Cb, Cg, Ch, Ci, Cj joined. -/
import Derived.Deep.LoopGhost
import Derived.Test.YtpcbcodmocmilaaGreatDoorRCa
import Derived.Test.YtpcbcodmocmilaaGreatDoorRG23
namespace Go.Proofs.YtpcbcodmocmilaaGreatDoor
open Go.RowKit
/- Code of a tree, on lists: the mirror, and what it is like (plain; no word of a dump). -/
section

/-- A selector's. -/
def selD (y : SelT) (a : Int) : SelD := ⟨y.kind, bs y.name, y.index + y.fr, y.tt, y.step, y.hf, y.ht, a⟩
def turnS (i : Int) : Int := if i = 2 then 4 else if i = 3 then 5 else if i = 4 then 2 else if i = 5 then 3 else i
def cmpD (b : Nat) (x : ExprT) : InsD := if x.left.lit then ⟨1, b, turnS x.op, x.left.kind, x.left.n, bs x.left.s, 0⟩ else ⟨1, b, x.op, x.right.kind, x.right.n, bs x.right.s, 0⟩
def cmpP (x : ExprT) : PathT := if x.left.lit then x.right.p else x.left.p
def opD (k : Int) : InsD := ⟨k, 0, 0, 0, 0, bs [], 0⟩
def lenK (L : ExprT → Nat) : List ExprT → Nat
  | [] => 0
  | x :: r => L x + (if r.isEmpty then 0 else lenK L r + 1)
/-- How many instructions an expression has. -/
def lenN : Nat → ExprT → Nat
  | 0, _ => 0
  | n + 1, x => if x.kind = 3 ∨ x.kind = 4 then 1 else if x.kind = 2 then lenK (lenN n) x.kids + 1 else lenK (lenN n) x.kids
/-- The paths that it meets. -/
def waitN : Nat → ExprT → List PathT
  | 0, _ => []
  | n + 1, x => if x.kind = 3 then [x.q] else if x.kind = 4 then [cmpP x] else x.kids.flatMap (waitN n)
def insK (I : Nat → Nat → ExprT → List InsD) (L Wt : ExprT → Nat) (op : Int) (E : Nat) : Nat → Nat → List ExprT → List InsD
  | _, _, [] => []
  | a, b, x :: r => I a b x ++ (if r.isEmpty then [] else ⟨op, 0, 0, 0, 0, bs [], E⟩ :: insK I L Wt op E (a + L x + 1) (b + Wt x) r)
/-- Its instructions, laid at a, the first path's number b. -/
def insN : Nat → Nat → Nat → ExprT → List InsD
  | 0, _, _, _ => []
  | n + 1, a, b, x =>
    if x.kind = 3 then [⟨0, b, 0, 0, 0, bs [], 0⟩]
    else if x.kind = 4 then [cmpD b x]
    else if x.kind = 2 then insK (insN n) (lenN n) (fun k => (waitN n k).length) 0 0 a b x.kids ++ [opD 2]
    else insK (insN n) (lenN n) (fun k => (waitN n k).length) (3 + x.kind) (a + lenK (lenN n) x.kids) a b x.kids
/-- Selectors, and their filters' instructions. -/
def flD (n : Nat) : Nat → Nat → List SelT → List SelD × List InsD
  | _, _, [] => ([], [])
  | a, b, y :: r => match y.f with
    | none => (selD y 0 :: (flD n a b r).1, (flD n a b r).2)
    | some e => (selD y a :: (flD n (a + lenN n e + 1) (b + (waitN n e).length) r).1, insN n a b e ++ opD 5 :: (flD n (a + lenN n e + 1) (b + (waitN n e).length) r).2)
def flW (n : Nat) : List SelT → List PathT
  | [] => []
  | y :: r => (match y.f with | none => [] | some e => waitN n e) ++ flW n r
def gsD : Nat → List SegT → List SegD
  | _, [] => []
  | a, s :: r => ⟨s.deep, a, (a + s.sels.length : Nat)⟩ :: gsD (a + s.sels.length) r
def selsOf (l : List SegT) : List SelT := l.flatMap fun s => s.sels
/-- A path laid: b is the next path's number. -/
def layP (n b : Nat) (c : CodeD) (p : PathT) : CodeD :=
  ⟨c.ps ++ [⟨p.abs, c.gs.length, (c.gs.length + p.segs.length : Nat)⟩], c.gs ++ gsD c.ss.length p.segs, c.ss ++ (flD n c.is.length b (selsOf p.segs)).1, c.is ++ (flD n c.is.length b (selsOf p.segs)).2⟩
def makeL (n : Nat) : Nat → CodeD → List PathT → CodeD
  | 0, c, _ => c
  | _ + 1, c, [] => c
  | f + 1, c, p :: r => makeL n f (layP n (c.ps.length + 1 + r.length) c p) (r ++ flW n (selsOf p.segs))
def code0 : CodeD := ⟨[], [], [], []⟩
/-- A query's code. -/
def codeT (p : PathT) : CodeD := makeL 200 5000 code0 [p]

section
variable {S : List UInt8 → Prop}
theorem lenK_le (L : ExprT → Nat) : ∀ l : List ExprT, lenK L l + 1 ≤ (l.map fun k => L k + 1).sum + 1
  | [] => by simp [lenK]
  | x :: r => by
    rw [lenK, List.map_cons, List.sum_cons]
    have := lenK_le L r
    split <;> omega
theorem lenK_pos (L : ExprT → Nat) {l : List ExprT} (h : ∀ k ∈ l, 1 ≤ L k) (h0 : l ≠ []) : 1 ≤ lenK L l := by
  cases l with
  | nil => exact absurd rfl h0
  | cons x r => rw [lenK]; have := h x (by simp); omega
theorem two_ne {α : Type} {l : List α} (h : 2 ≤ l.length) : l ≠ [] := by intro e; rw [e] at h; simp at h
theorem lenN_pos : ∀ (n : Nat) (x : ExprT), WfN S n x → 1 ≤ lenN n x
  | 0, _, h => h.elim
  | n + 1, x, h => by
    have h' : WfX S (WfN S n) x := h
    rw [lenN]
    cases h' with
    | or l a b => exact lenK_pos _ (fun k hk => lenN_pos n k (b k hk)) (two_ne a)
    | and l a b => exact lenK_pos _ (fun k hk => lenN_pos n k (b k hk)) (two_ne a)
    | not k a => simp [mkE]
    | test p a => simp [tstE]
    | cmp op a b a1 a2 a3 a4 a5 a6 => simp
theorem insK_len {I : Nat → Nat → ExprT → List InsD} {L Wt : ExprT → Nat} {op : Int} {E : Nat} : ∀ (l : List ExprT) (a b : Nat), (∀ k ∈ l, ∀ a b, (I a b k).length = L k) → (insK I L Wt op E a b l).length = lenK L l
  | [], _, _, _ => rfl
  | x :: r, a, b, h => by
    rw [insK, lenK, List.length_append, h x (by simp)]
    split
    · rfl
    · rw [List.length_cons, insK_len r _ _ fun k hk => h k (by simp [hk])]
theorem insN_len : ∀ (n : Nat) (x : ExprT), WfN S n x → ∀ a b, (insN n a b x).length = lenN n x
  | 0, _, h => h.elim
  | n + 1, x, h => fun a b => by
    have h' : WfX S (WfN S n) x := h
    have ih : ∀ k, WfN S n k → ∀ a b, (insN n a b k).length = lenN n k := fun k hk => insN_len n k hk
    rw [insN, lenN]
    cases h' with
    | or l a1 b1 => simp only [mkE]; exact insK_len l _ _ fun k hk => ih k (b1 k hk)
    | and l a1 b1 => simp only [mkE]; exact insK_len l _ _ fun k hk => ih k (b1 k hk)
    | not k a1 =>
      have := insK_len (Wt := fun k => (waitN n k).length) (op := 0) (E := 0) [k] a b (fun y hy => by simp at hy; rw [hy]; exact ih k a1)
      simp [mkE, this]
    | test p a1 => simp [tstE]
    | cmp op x y a1 a2 a3 a4 a5 a6 => simp
theorem cmp_path {W : ExprT → Prop} {op : Int} {a b : SideT} (a3 : WfSide S W a) (a4 : WfSide S W b) (a5 : a.lit ≠ b.lit) : WfP S W (cmpP ⟨4, [], path0, op, a, b⟩) := by
  unfold cmpP
  simp only
  cases h : a.lit
  · simp only [Bool.false_eq_true, if_false]
    cases a3 with
    | path p a => exact a
    | _ => cases h
  · simp only [if_true]
    cases a4 with
    | path p a => exact a
    | _ => exact absurd h a5
theorem waitN_wf : ∀ (n : Nat) (x : ExprT), WfN S n x → ∀ q ∈ waitN n x, WfP S (WfN S n) q
  | 0, _, h => h.elim
  | n + 1, x, h => fun q hq => by
    have h' : WfX S (WfN S n) x := h
    have up : ∀ {q}, WfP S (WfN S n) q → WfP S (WfN S (n + 1)) q := fun k => k.mono fun e he => WfN.up n (n + 1) (by omega) e he
    have key : ∀ l : List ExprT, (∀ k ∈ l, WfN S n k) → q ∈ l.flatMap (waitN n) → WfP S (WfN S (n + 1)) q := fun l hl hm => by
      obtain ⟨k, hk, hm⟩ := List.mem_flatMap.1 hm
      exact up (waitN_wf n k (hl k hk) q hm)
    rw [waitN] at hq
    cases h' with
    | or l a b => exact key l b hq
    | and l a b => exact key l b hq
    | not k a => exact key [k] (by intro y hy; simp at hy; rw [hy]; exact a) hq
    | test p a => simp [tstE] at hq; rw [hq]; exact up a
    | cmp op a b a1 a2 a3 a4 a5 a6 => simp at hq; rw [hq]; exact up (cmp_path a3 a4 a5)
theorem sum_le {α : Type} {f g : α → Nat} : ∀ {l : List α}, (∀ x ∈ l, f x ≤ g x) → (l.map f).sum ≤ (l.map g).sum
  | [], _ => Nat.le_refl _
  | x :: l, h => by
    rw [List.map_cons, List.map_cons, List.sum_cons, List.sum_cons]
    have := h x (by simp)
    have := sum_le (l := l) fun y hy => h y (by simp [hy])
    omega
theorem sum_add {α : Type} (f g : α → Nat) : ∀ l : List α, (l.map fun x => f x + g x).sum = (l.map f).sum + (l.map g).sum
  | [] => rfl
  | x :: l => by simp only [List.map_cons, List.sum_cons, sum_add f g l]; omega
theorem sum_flat {α β : Type} (f : α → List β) (g : β → Nat) : ∀ l : List α, ((l.flatMap f).map g).sum = (l.map fun x => ((f x).map g).sum).sum
  | [] => rfl
  | x :: l => by rw [List.flatMap_cons, List.map_append, List.sum_append, sum_flat f g l, List.map_cons, List.sum_cons]
/-- What an expression costs. -/
theorem cost (N : Nat) : ∀ (n : Nat) (x : ExprT), n ≤ N → WfN S n x → lenN n x + ((waitN n x).map (wtP (wtN N))).sum + 1 ≤ wtN n x
  | 0, _, _, h => h.elim
  | n + 1, x, hn, h => by
    have h' : WfX S (WfN S n) x := h
    have ih : ∀ k, WfN S n k → lenN n k + ((waitN n k).map (wtP (wtN N))).sum + 1 ≤ wtN n k := fun k hk => cost N n k (by omega) hk
    have eqP : ∀ {q}, WfP S (WfN S n) q → wtP (wtN N) q = wtP (wtN n) q := fun k => wtP_eq (W := WfN S n) (fun e he => wtN_up n N (by omega) e he) k
    have key : ∀ l : List ExprT, (∀ k ∈ l, WfN S n k) → lenK (lenN n) l + ((l.flatMap (waitN n)).map (wtP (wtN N))).sum ≤ (l.map (wtN n)).sum := fun l hl => by
      have h1 := lenK_le (lenN n) l
      rw [sum_flat]
      have h2 := sum_le (f := fun k => (lenN n k + 1) + ((waitN n k).map (wtP (wtN N))).sum) (g := wtN n) (l := l) fun k hk => by have := ih k (hl k hk); omega
      rw [sum_add] at h2
      omega
    rw [lenN, waitN]
    cases h' with
    | or l a b => have := key l b; rw [wt_mk]; simp [mkE] at this ⊢; omega
    | and l a b => have := key l b; rw [wt_mk]; simp [mkE] at this ⊢; omega
    | not k a =>
      have := key [k] (by intro y hy; simp at hy; rw [hy]; exact a)
      rw [wt_mk]; simp [mkE] at this ⊢; omega
    | test p a => have := eqP a; rw [wtN]; simp [tstE, side0, path0, wtP] at this ⊢; omega
    | cmp op a b a1 a2 a3 a4 a5 a6 =>
      have h3 := eqP (cmp_path (op := op) a3 a4 a5)
      rw [wtN]
      have h4 : 1 ≤ wtP (wtN n) a.p := by unfold wtP; omega
      have h5 : 1 ≤ wtP (wtN n) b.p := by unfold wtP; omega
      have h6 : 1 ≤ wtP (wtN n) path0 := by unfold wtP; omega
      simp at h3 ⊢
      rw [h3]
      unfold cmpP
      cases a.lit <;> simp <;> omega
theorem flD_len (n : Nat) : ∀ (l : List SelT) (a b : Nat), (flD n a b l).1.length = l.length
  | [], _, _ => rfl
  | y :: r, a, b => by
    rw [flD]
    split <;> simp [flD_len n r]
theorem fl_cost (N : Nat) : ∀ (l : List SelT) (a b : Nat), (∀ y ∈ l, WfS S (WfN S N) y) → l.length + (flD N a b l).2.length + ((flW N l).map (wtP (wtN N))).sum ≤ (l.map (wtS (wtN N))).sum
  | [], _, _, _ => by simp [flD, flW]
  | y :: r, a, b, h => by
    have hr := fun a b => fl_cost N r a b fun y hy => h y (by simp [hy])
    have hy := h y (by simp)
    rw [List.map_cons, List.sum_cons, flD, flW]
    cases hf : y.f with
    | none => have := hr a b; rw [wtS_none hf]; simp only [List.nil_append, List.length_cons] at this ⊢; omega
    | some e =>
      have he : WfN S N e := by
        cases hy with
        | filt e' k => obtain rfl := Option.some.inj hf; exact k
        | _ => cases hf
      have h1 := cost N N e (Nat.le_refl _) he
      have h2 := hr (a + lenN N e + 1) (b + (waitN N e).length)
      have h3 : wtS (wtN N) y = 1 + wtN N e := by simp [wtS, hf]
      simp only [List.length_append, List.length_cons, insN_len N e he, List.map_append, List.sum_append]
      omega
theorem selsOf_mem {l : List SegT} {y : SelT} (h : y ∈ selsOf l) : ∃ s ∈ l, y ∈ s.sels := List.mem_flatMap.1 h
theorem gsD_len : ∀ (l : List SegT) (a : Nat), (gsD a l).length = l.length
  | [], _ => rfl
  | s :: r, a => by rw [gsD, List.length_cons, gsD_len r, List.length_cons]
/-- What a path costs. -/
theorem path_cost (N : Nat) (p : PathT) (a b : Nat) (h : WfP S (WfN S N) p) : 1 + p.segs.length + (selsOf p.segs).length + (flD N a b (selsOf p.segs)).2.length + ((flW N (selsOf p.segs)).map (wtP (wtN N))).sum ≤ wtP (wtN N) p := by
  have h1 := fl_cost N (selsOf p.segs) a b fun y hy => by
    obtain ⟨s, hs, hy⟩ := selsOf_mem hy
    exact (h s hs).2 y hy
  have h2 : ∀ l : List SegT, l.length + ((selsOf l).map (wtS (wtN N))).sum = (l.map (wtG (wtN N))).sum := fun l => by
    induction l with
    | nil => rfl
    | cons s r ih =>
      unfold selsOf at ih ⊢
      rw [List.flatMap_cons, List.map_append, List.sum_append, List.map_cons, List.sum_cons, ← ih, List.length_cons]
      unfold wtG; omega
  have := h2 p.segs
  show _ ≤ 1 + (p.segs.map (wtG (wtN N))).sum
  omega
theorem flW_mem {N : Nat} {q : PathT} : ∀ {l : List SelT}, (∀ y ∈ l, WfS S (WfN S N) y) → q ∈ flW N l → WfP S (WfN S N) q
  | [], _, h => by simp [flW] at h
  | y :: r, hl, h => by
    rw [flW, List.mem_append] at h
    rcases h with h | h
    · cases hf : y.f with
      | none => rw [hf] at h; simp at h
      | some e =>
        rw [hf] at h
        have hy := hl y (by simp)
        have he : WfN S N e := by
          cases hy with
          | filt e' k => obtain rfl := Option.some.inj hf; exact k
          | _ => cases hf
        exact waitN_wf N e he q h
    · exact flW_mem (fun y hy => hl y (by simp [hy])) h
theorem sels_wf {W : ExprT → Prop} {p : PathT} (h : WfP S W p) : ∀ y ∈ selsOf p.segs, WfS S W y := fun y hy => by
  obtain ⟨s, hs, hy⟩ := selsOf_mem hy
  exact (h s hs).2 y hy
end

end
/- ref19: expr, but for or and and (printed by gen_cg.py). -/
section
open Go.RowKit

section
variable (B1 B2 B3 A4 A5 : Option Addr) (m1 d1 m2 d2 m3 d3 c4 c5 n4 nw : Nat) (xs wc : List Value) (w : World)
section
variable (h4 : Rdd w 7 A4 n4 xs) (h5 : Rdd w 2 A5 nw wc) (h0 : ∀ u ∈ xs, u.oneCell' = true) (h1 : ∀ u ∈ wc, u.oneCell' = true) (hl : n4 ≤ 999990) (hlw : nw ≤ 999990)
include h4 h5 h0 h1 hl hlw

end
end

end
/- Jumps laid, and turned once their place is known; rows written into (no word of a dump but the types'). -/
section
open Go.RowKit

section
variable {I : Nat → Nat → ExprT → List InsD} {L Wt : ExprT → Nat} {op : Int} {E : Nat}
theorem insK_cc (y z : ExprT) (r : List ExprT) (a b : Nat) : insK I L Wt op E a b (y :: z :: r) = I a b y ++ ⟨op, 0, 0, 0, 0, bs [], E⟩ :: insK I L Wt op E (a + L y + 1) (b + Wt y) (z :: r) := rfl
theorem lenK_cc (y z : ExprT) (r : List ExprT) : lenK L (y :: z :: r) = L y + (lenK L (z :: r) + 1) := rfl
theorem insK_snoc : ∀ (l : List ExprT) (x : ExprT) (a b : Nat), l ≠ [] → insK I L Wt op E a b (l ++ [x]) = insK I L Wt op E a b l ++ ⟨op, 0, 0, 0, 0, bs [], E⟩ :: I (a + lenK L l + 1) (b + (l.map Wt).sum) x
  | [], _, _, _, h => absurd rfl h
  | [y], x, a, b, _ => by simp [insK, lenK]
  | y :: z :: r, x, a, b, _ => by
    have := insK_snoc (z :: r) x (a + L y + 1) (b + Wt y) (by simp)
    rw [List.cons_append] at this
    rw [List.cons_append, List.cons_append, insK_cc, this, insK_cc, lenK_cc]
    simp only [List.append_assoc, List.cons_append, List.map_cons, List.sum_cons]
    rw [show a + L y + 1 + lenK L (z :: r) + 1 = a + (L y + (lenK L (z :: r) + 1)) + 1 by omega, show b + Wt y + (Wt z + (r.map Wt).sum) = b + (Wt y + (Wt z + (r.map Wt).sum)) by omega]
theorem lenK_snoc : ∀ (l : List ExprT) (x : ExprT), l ≠ [] → lenK L (l ++ [x]) = lenK L l + 1 + L x
  | [], _, h => absurd rfl h
  | [y], x, _ => by simp [lenK]; omega
  | y :: z :: r, x, _ => by
    have := lenK_snoc (z :: r) x (by simp)
    rw [List.cons_append] at this
    rw [List.cons_append, List.cons_append, lenK_cc, this, lenK_cc]
    omega
/-- The jumps' places. -/
def posK (L : ExprT → Nat) : Nat → List ExprT → List Nat
  | _, [] => []
  | a, x :: r => if r.isEmpty then [] else (a + L x) :: posK L (a + L x + 1) r
theorem posK_cc (y z : ExprT) (r : List ExprT) (a : Nat) : posK L a (y :: z :: r) = (a + L y) :: posK L (a + L y + 1) (z :: r) := rfl
theorem posK_snoc : ∀ (l : List ExprT) (x : ExprT) (a : Nat), l ≠ [] → posK L a (l ++ [x]) = posK L a l ++ [a + lenK L l]
  | [], _, _, h => absurd rfl h
  | [y], x, a, _ => by simp [posK, lenK]
  | y :: z :: r, x, a, _ => by
    have := posK_snoc (z :: r) x (a + L y + 1) (by simp)
    rw [List.cons_append] at this
    rw [List.cons_append, List.cons_append, posK_cc, this, posK_cc, lenK_cc, List.cons_append]
    rw [show a + L y + 1 + lenK L (z :: r) = a + (L y + (lenK L (z :: r) + 1)) by omega]
def toD (E : Nat) (y : InsD) : InsD := ⟨y.op, y.p, y.sign, y.kind, y.n, y.s, (E : Nat)⟩
/-- The jumps turned. -/
def patchL (E : Nat) : List Nat → List InsD → List InsD
  | [], l => l
  | p :: r, l => patchL E r (l.modify p (toD E))
theorem patchL_len (E : Nat) : ∀ (ps : List Nat) (l : List InsD), (patchL E ps l).length = l.length
  | [], _ => rfl
  | p :: r, l => by rw [patchL, patchL_len E r]; simp
theorem patchL_snoc (E : Nat) : ∀ (ps : List Nat) (p : Nat) (l : List InsD), patchL E (ps ++ [p]) l = (patchL E ps l).modify p (toD E)
  | [], _, _ => rfl
  | q :: r, p, l => by rw [List.cons_append, patchL, patchL, patchL_snoc E r]
theorem modify_mid {l1 l2 : List InsD} {y : InsD} {f : InsD → InsD} {p : Nat} (h : l1.length = p) : (l1 ++ y :: l2).modify p f = l1 ++ f y :: l2 := by
  subst h
  induction l1 with
  | nil => rfl
  | cons x r ih => rw [List.cons_append, List.length_cons, List.modify_succ_cons, ih, List.cons_append]
theorem modify_set {f : InsD → InsD} : ∀ {l : List InsD} {p : Nat} {y : InsD}, l[p]? = some y → l.modify p f = l.set p (f y)
  | [], _, _, h => by simp at h
  | x :: r, 0, y, h => by obtain rfl := Option.some.inj h; rfl
  | x :: r, p + 1, y, h => by
    rw [List.getElem?_cons_succ] at h
    rw [List.modify_succ_cons, List.set_cons_succ, modify_set h]
theorem patch_all : ∀ (l : List ExprT) (_ : ∀ x ∈ l, ∀ a b, (I a b x).length = L x) (a b : Nat) (pre suf : List InsD), pre.length = a → patchL E (posK L a l) (pre ++ (insK I L Wt op 0 a b l ++ suf)) = pre ++ (insK I L Wt op E a b l ++ suf)
  | [], _, _, _, _, _, _ => rfl
  | [x], _, a, b, pre, suf, _ => by simp [posK, patchL, insK]
  | x :: z :: r, hI, a, b, pre, suf, h => by
    rw [posK_cc, insK_cc, insK_cc, patchL]
    have e : ∀ F : Nat, pre ++ (I a b x ++ ⟨op, 0, 0, 0, 0, bs [], (F : Nat)⟩ :: insK I L Wt op F (a + L x + 1) (b + Wt x) (z :: r) ++ suf) = (pre ++ I a b x) ++ ⟨op, 0, 0, 0, 0, bs [], (F : Nat)⟩ :: (insK I L Wt op F (a + L x + 1) (b + Wt x) (z :: r) ++ suf) := fun F => by simp
    have hl : (pre ++ I a b x).length = a + L x := by rw [List.length_append, h, hI x (by simp)]
    rw [e 0, modify_mid hl, e E]
    have := patch_all (z :: r) (fun x hx => hI x (by simp [hx])) (a + L x + 1) (b + Wt x) (pre ++ I a b x ++ [⟨op, 0, 0, 0, 0, bs [], (E : Nat)⟩]) suf (by rw [List.length_append, hl]; rfl)
    simp only [List.append_assoc, List.singleton_append] at this ⊢
    exact this
theorem posK_lt : ∀ (l : List ExprT) (_ : ∀ x ∈ l, 1 ≤ L x) (a : Nat), ∀ p ∈ posK L a l, a ≤ p ∧ p < a + lenK L l
  | [], _, _, _, h => by simp [posK] at h
  | [x], _, _, _, h => by simp [posK] at h
  | x :: z :: r, hL, a, p, h => by
    rw [posK] at h
    rw [lenK]
    simp only [List.isEmpty_cons, Bool.false_eq_true, if_false] at h ⊢
    have hz : 1 ≤ lenK L (z :: r) := by rw [lenK]; have := hL z (by simp); omega
    rcases List.mem_cons.1 h with rfl | h
    · omega
    · have := posK_lt (z :: r) (fun x hx => hL x (by simp [hx])) _ p h; omega
theorem posK_len : ∀ (l : List ExprT) (a : Nat), (posK L a l).length ≤ l.length
  | [], _ => Nat.le_refl _
  | x :: r, a => by
    rw [posK]
    split
    · simp
    · rw [List.length_cons, List.length_cons]; have := posK_len r (a + L x + 1); omega
end
/-! ## Rows as blocks -/
section
variable {X : List Nat} {w0 w : World} {L : List BlkE} {rs : List RowE} {J : World → Prop} {v : Value} {T : TypeId} {k n : Nat} {xs : List Value}
/-- A row that is written no more. -/
theorem Own.freezeRow (M : Own X w0 w L ((v, T, k, n, xs) :: rs) J) : ∃ A c, v = .slice A n c ∧ (n ≤ c ∧ c ≤ maxLen) ∧ FrA w0 A ∧ Own X w0 w L rs (fun y => J y ∧ Rdd y k A n xs) := by
  obtain ⟨A, c, hv, hc, hf, hr⟩ := own_reads (M.row _ List.mem_cons_self)
  simp only at hv hr
  have hsub : (exO L rs).Sublist (exO L ((v, T, k, n, xs) :: rs)) := by
    unfold exO
    exact List.Sublist.append (List.Sublist.refl _) (List.Sublist.filterMap _ (List.sublist_cons_self _ _))
  have hN := M.nodup
  refine ⟨A, c, hv, hc, hf, M.os, M.output, M.size, M.out, M.low, M.blk, fun r h => M.row r (List.mem_cons_of_mem _ h), hsub.nodup hN, fun y hy => ⟨M.always y ⟨hy.1, fun b h1 h2 => hy.2 b h1 fun h => h2 (hsub.subset h)⟩, hr.kept hy fun a e h0 hm => ?_⟩⟩
  subst hv
  obtain ⟨g, off, sp⟩ := a
  rcases (M.row _ List.mem_cons_self).2 with ⟨h, hn⟩ | ⟨g', cap, cur, h, _⟩
  · simp only at hn; omega
  · simp only [Value.slice.injEq] at h
    obtain ⟨h, _, _⟩ := h
    rw [h] at e
    cases e
    subst h
    unfold exO at hN hm
    rw [List.filterMap_cons] at hN
    have hN' := (List.perm_middle (l₁ := L.map (·.1)) (l₂ := rs.filterMap fun r => r.1.ownBlock) (a := g)).nodup_iff.1 hN
    exact (List.nodup_cons.1 hN').1 hm
theorem row_form {base : Nat} {A : Option Addr} {m c : Nat} {xs : List Value} (h : w.ownsRow base T k v n xs) (hv : v = .slice A m c) : ∀ a, A = some a → ∃ g, a = ⟨g, 0, none⟩ := by
  intro a e
  subst hv
  rcases h.2 with ⟨h, _⟩ | ⟨g, cap, cur, h, _⟩
  · cases h; cases e
  · cases h; cases e; exact ⟨g, rfl⟩
end
theorem setAt_get : ∀ (vs : List Value) (cs : Array Value) (o i : Nat), o + vs.length ≤ cs.size → (setAt cs o vs)[i]? = if o ≤ i ∧ i < o + vs.length then vs[i - o]? else cs[i]?
  | [], cs, o, i, _ => by rw [setAt, if_neg (by simp)]
  | v :: r, cs, o, i, h => by
    rw [List.length_cons] at h
    rw [setAt, setAt_get r _ (o + 1) i (by simp; omega), List.length_cons]
    by_cases h0 : i = o
    · subst h0
      rw [if_neg (by omega), if_pos (by omega), Nat.sub_self, List.getElem?_cons_zero, Array.getElem?_setIfInBounds_self_of_lt (by omega)]
    · by_cases h1 : o + 1 ≤ i ∧ i < o + 1 + r.length
      · rw [if_pos h1, if_pos (by omega), show i - o = (i - (o + 1)) + 1 by omega, List.getElem?_cons_succ]
      · rw [if_neg h1, if_neg (by omega), Array.getElem?_setIfInBounds_ne (by omega)]
theorem take_set {α : Type} (f : α → List Value) (k : Nat) (hk : ∀ x, (f x).length = k) {l : List α} {cur : Array Value} (h : cur.toList.take (l.length * k) = l.flatMap f) (hsz : l.length * k ≤ cur.size) {p : Nat} {y : α} (hp : p < l.length) : (setAt cur (p * k) (f y)).toList.take (l.length * k) = (l.set p y).flatMap f := by
  have hle : p * k + k ≤ l.length * k := by rw [← Nat.succ_mul]; exact Nat.mul_le_mul_right k hp
  rcases Nat.eq_zero_or_pos k with hk0 | hk0
  · subst hk0
    have : ∀ l : List α, l.flatMap f = [] := fun l => by
      induction l with
      | nil => rfl
      | cons x r ih => rw [List.flatMap_cons, ih, List.eq_nil_of_length_eq_zero (hk x)]; rfl
    rw [this]; simp
  refine List.ext_getElem? fun i => ?_
  by_cases hi : i < l.length * k
  · rw [List.getElem?_take_of_lt hi, Array.getElem?_toList, setAt_get _ _ _ _ (by rw [hk]; omega), hk]
    have hd : i / k * k + i % k = i := Nat.div_add_mod' i k
    have hm : i % k < k := Nat.mod_lt _ hk0
    have hg : ((l.set p y).flatMap f)[i]? = ((l.set p y)[i / k]?).bind fun x => (f x)[i % k]? := by
      have := flat_get f k hk (l.set p y) (i / k) (i % k) hm
      rwa [hd] at this
    rw [hg]
    by_cases hin : p * k ≤ i ∧ i < p * k + k
    · have e : i / k = p := by
        rw [Nat.div_eq_iff hk0]; omega
      rw [if_pos hin, e, List.getElem?_set_self hp]
      show _ = (f y)[i % k]?
      rw [e] at hd
      rw [show i - p * k = i % k by omega]
    · have e : p ≠ i / k := by
        intro e
        rw [← e] at hd
        omega
      rw [if_neg hin, List.getElem?_set_ne e]
      have h1 : (cur.toList.take (l.length * k))[i]? = (l.flatMap f)[i]? := by rw [h]
      rw [List.getElem?_take_of_lt hi, Array.getElem?_toList] at h1
      rw [h1]
      have := flat_get f k hk l (i / k) (i % k) hm
      rwa [hd] at this
  · rw [List.getElem?_eq_none (by rw [List.length_take]; omega), List.getElem?_eq_none (by rw [flat_len f k hk, List.length_set]; omega)]

end
/- ref19: expr, or and and (printed by gen_ci.py). -/
section
open Go.RowKit

/-- A kid: the tree, its cells, the paths that it meets, as they lie in memory. -/
structure KidD where
  x : ExprT
  kc : List Value
  W : List (PathT × Value)
def wC (z : PathT × Value) : List Value := [.bool z.1.abs, z.2]
def ksD (D : List KidD) : List ExprT := D.map (·.x)
def nWD (D : List KidD) : Nat := (D.map fun d => d.W.length).sum
def posV (L : ExprT → Nat) (a : Nat) (l : List ExprT) : List Value := (posK L a l).map fun (p : Nat) => .int .i64 (p : Int)
theorem nWD_eq {n : Nat} : ∀ {D : List KidD}, (∀ d ∈ D, d.W.length = (waitN n d.x).length) → ((ksD D).map fun y => (waitN n y).length).sum = nWD D
  | [], _ => rfl
  | d :: r, h => by
    have := nWD_eq (D := r) fun d hd => h d (by simp [hd])
    unfold ksD nWD at *
    rw [List.map_cons, List.map_cons, List.sum_cons, List.map_cons, List.sum_cons, this, h d (by simp)]
theorem lenK_app_le {L : ExprT → Nat} : ∀ (l r : List ExprT), lenK L l ≤ lenK L (l ++ r)
  | [], _ => Nat.zero_le _
  | [x], r => by cases r <;> simp [lenK]
  | x :: z :: l, r => by
    have := lenK_app_le (L := L) (z :: l) r
    rw [List.cons_append] at this
    rw [List.cons_append, List.cons_append, lenK_cc, lenK_cc]; omega
section
variable (B1 B2 B3 A4 A5 : Option Addr) (m1 d1 m2 d2 m3 d3 c4 c5 n4 nw : Nat) (is : List InsD) (wc : List Value) (w : World)

end

end
/- ref19: expr, of whatever tree. -/
section
open Go.RowKit

/-- A block that is there. -/
def Lw (w : World) (b : Nat) : Prop := b < w.heap.size
/-- A path that waits: its segments lie in memory. -/
def TreeV (wT : World) (z : PathT × Value) : Prop := ∃ A c m, z.2 = .slice A z.1.segs.length c ∧ SegsG (Lw wT) (ExR (Lw wT) m wT) wT (.slice A z.1.segs.length c) z.1.segs
theorem listOf {α : Type} (Q : Nat → α → Prop) : ∀ n : Nat, (∀ i, i < n → ∃ x, Q i x) → ∃ l : List α, l.length = n ∧ ∀ i x, l[i]? = some x → Q i x
  | 0, _ => ⟨[], rfl, fun i x h => by simp at h⟩
  | n + 1, h => by
    obtain ⟨l, hl, hq⟩ := listOf Q n fun i hi => h i (by omega)
    obtain ⟨x, hx⟩ := h n (by omega)
    refine ⟨l ++ [x], by simp [hl], fun i y hy => ?_⟩
    by_cases hi : i < l.length
    · rw [List.getElem?_append_left hi] at hy; exact hq i y hy
    · rw [List.getElem?_append_right (by omega)] at hy
      have h0 : i - l.length = 0 := by
        rcases Nat.eq_zero_or_pos (i - l.length) with h0 | h0
        · exact h0
        · rw [List.getElem?_eq_none (by simp; omega)] at hy; cases hy
      rw [h0] at hy
      have hy2 : x = y := by simpa using hy
      subst hy2
      rw [show i = n by omega]; exact hx
theorem TreeV.one {wT : World} {z : PathT × Value} (h : TreeV wT z) : ∀ u ∈ wC z, u.oneCell' = true := by
  obtain ⟨A, c, m, e, _⟩ := h
  unfold wC
  rw [e]
  exact allOne_mem rfl
theorem SegsG.tree {wT : World} {m : Nat} {v : Value} {p : PathT} (h : SegsG (Lw wT) (ExR (Lw wT) m wT) wT v p.segs) : TreeV wT (p, v) := by
  obtain ⟨A, c, rfl, h2, h3⟩ := h
  exact ⟨A, c, m, rfl, A, c, rfl, h2, h3⟩
section
variable {S : List UInt8 → Prop} {wT : World} {n : Nat}
theorem nWD_len : ∀ D : List KidD, (D.flatMap (·.W)).length = nWD D
  | [] => rfl
  | d :: r => by rw [List.flatMap_cons, List.length_append, nWD_len r]; unfold nWD; rw [List.map_cons, List.sum_cons]
theorem wait_flat {D : List KidD} (h : ∀ d ∈ D, d.W.map (·.1) = waitN n d.x) : (D.flatMap (·.W)).map (·.1) = (ksD D).flatMap (waitN n) := by
  unfold ksD
  rw [List.map_flatMap, List.flatMap_map]
  induction D with
  | nil => rfl
  | cons d r ih => rw [List.flatMap_cons, List.flatMap_cons, h d (by simp), ih fun d hd => h d (by simp [hd])]
theorem slice_of_segs {m : Nat} {v : Value} {l : List SegT} (h : SegsG (Lw wT) (ExR (Lw wT) m wT) wT v l) : ∃ A c, v = .slice A l.length c := by
  obtain ⟨A, c, e, _⟩ := h
  exact ⟨A, c, e⟩
end
theorem kids_len {S : List UInt8 → Prop} : ∀ (n : Nat) (x : ExprT), WfN S n x → x.kids.length ≤ lenN n x
  | 0, _, h => h.elim
  | n + 1, x, h => by
    have h' : WfX S (WfN S n) x := h
    have key : ∀ l : List ExprT, (∀ k ∈ l, WfN S n k) → l.length ≤ lenK (lenN n) l := fun l hl => by
      induction l with
      | nil => exact Nat.zero_le _
      | cons x r ihl =>
        have h1 := lenN_pos n x (hl x (by simp))
        have h2 := ihl fun k hk => hl k (by simp [hk])
        rw [lenK, List.length_cons]
        split
        · rename_i hr
          rw [List.isEmpty_iff.1 hr]; simp; omega
        · omega
    rw [lenN]
    cases h' with
    | or l a b => simpa [mkE] using key l b
    | and l a b => simpa [mkE] using key l b
    | not k a => simp [mkE]
    | test p a => simp [tstE]
    | cmp op a b a1 a2 a3 a4 a5 a6 => simp
end

end Go.Proofs.YtpcbcodmocmilaaGreatDoor
