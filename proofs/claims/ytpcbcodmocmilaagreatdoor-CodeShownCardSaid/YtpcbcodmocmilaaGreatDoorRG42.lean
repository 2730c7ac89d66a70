/- RG42: Ck, Cc, Cl, Za joined. -/
import Derived.Test.YtpcbcodmocmilaaGreatDoorRG27
namespace Go.Proofs.YtpcbcodmocmilaaGreatDoor
open Go.RowKit
/- ref19: path (printed by gen_ck.py). -/
section
open Go.RowKit

def pathC (x : PathD) : List Value := [.bool x.abs, .int .i64 x.fr, .int .i64 x.tt]
def segC (x : SegD) : List Value := [.bool x.deep, .int .i64 x.fr, .int .i64 x.tt]
def selC (x : SelD) : List Value := [.int .i64 x.kind, .string x.nm, .int .i64 x.a, .int .i64 x.b, .int .i64 x.c, .bool x.ha, .bool x.hb, .int .i64 x.at_]
/-- A segment: its selectors' slice, the selectors with their filters' pointers. -/
structure SgD where
  s : SegT
  A : Option Addr
  c : Nat
  Y : List (SelT × Option Addr)
def yC (z : SelT × Option Addr) : List Value := selL z.1 (.pointer z.2)
def ysD (G : List SgD) : List (SelT × Option Addr) := G.flatMap (·.Y)
def FrO (w : World) (A A' : Option Addr) : Prop := ∀ a, A' = some a → (w.heap.size ≤ a.block ∧ a.spot = none) ∨ A = some a
theorem FrO.refl (w : World) (A : Option Addr) : FrO w A A := fun _ h => .inr h
theorem FrA.o {w : World} {A A' : Option Addr} (h : FrA w A') : FrO w A A' := fun a e => .inl (h a e)
theorem gsD_app : ∀ (l r : List SegT) (a : Nat), gsD a (l ++ r) = gsD a l ++ gsD (a + (selsOf l).length) r
  | [], _, _ => rfl
  | s :: l, r, a => by
    rw [List.cons_append, gsD, gsD_app l r, gsD, List.cons_append]
    have e : (selsOf (s :: l)).length = s.sels.length + (selsOf l).length := by unfold selsOf; rw [List.flatMap_cons, List.length_append]
    rw [e, Nat.add_assoc]
theorem sels_map : ∀ {G : List SgD}, (∀ d ∈ G, d.Y.map (·.1) = d.s.sels) → selsOf (G.map (·.s)) = (ysD G).map (·.1)
  | [], _ => rfl
  | d :: r, h => by
    have := sels_map (G := r) fun d hd => h d (by simp [hd])
    unfold selsOf ysD at *
    rw [List.map_cons, List.flatMap_cons, List.flatMap_cons, List.map_append, this, h d (by simp)]
theorem sel_len {G : List SgD} (h : ∀ d ∈ G, d.Y.map (·.1) = d.s.sels) : (selsOf (G.map (·.s))).length = (ysD G).length := by rw [sels_map h, List.length_map]
theorem WfS.sum {S : List UInt8 → Prop} {W : ExprT → Prop} {y : SelT} (h : WfS S W y) : -9223372036854775808 ≤ y.index + y.fr ∧ y.index + y.fr ≤ 9223372036854775807 := by
  cases h with
  | idx n a => unfold okN at a; simp only; omega
  | slice a b c ha hb a1 a2 a3 a4 a5 => unfold okN at a1; simp only; omega
  | _ => simp
theorem WfS.flt {S : List UInt8 → Prop} {W : ExprT → Prop} {y : SelT} (h : WfS S W y) : (y.kind = 4 ∧ ∃ e, y.f = some e ∧ W e) ∨ (y.kind ≠ 4 ∧ y.f = none) := by
  cases h with
  | filt e a => exact .inl ⟨rfl, e, rfl, a⟩
  | _ => right; simp
theorem flW_snoc (n : Nat) (y : SelT) : ∀ l : List SelT, flW n (l ++ [y]) = flW n l ++ (match y.f with | none => [] | some e => waitN n e)
  | [] => by rw [List.nil_append, flW, flW, flW, List.append_nil]; rfl
  | x :: l => by rw [List.cons_append, flW, flW_snoc n y l, flW, List.append_assoc]
theorem flD_snoc_none {n : Nat} {y : SelT} (hy : y.f = none) : ∀ (l : List SelT) (a b : Nat), flD n a b (l ++ [y]) = ((flD n a b l).1 ++ [selD y 0], (flD n a b l).2)
  | [], a, b => by simp [flD, hy]
  | x :: l, a, b => by
    rw [List.cons_append, flD, flD]
    cases x.f with
    | none => simp only; rw [flD_snoc_none hy l]; rfl
    | some e => simp only; rw [flD_snoc_none hy l]; rfl
theorem flD_snoc_some {n : Nat} {y : SelT} {e : ExprT} (hy : y.f = some e) : ∀ (l : List SelT) (_ : ∀ x ∈ l, ∀ e, x.f = some e → ∀ a b, (insN n a b e).length = lenN n e) (a b : Nat), flD n a b (l ++ [y]) = ((flD n a b l).1 ++ [selD y ((a + (flD n a b l).2.length : Nat) : Int)], (flD n a b l).2 ++ (insN n (a + (flD n a b l).2.length) (b + (flW n l).length) e ++ [opD 5]))
  | [], _, a, b => by simp [flD, hy, flW]
  | x :: l, h, a, b => by
    rw [List.cons_append, flD, flD, flW]
    have hl := fun x hx => h x (List.mem_cons_of_mem _ hx)
    cases hx : x.f with
    | none => simp only; rw [flD_snoc_some hy l hl]; simp
    | some e2 =>
      simp only
      rw [flD_snoc_some hy l hl]
      have h1 := h x (by simp) e2 hx a b
      simp only [List.length_append, List.length_cons, h1, List.cons_append, List.append_assoc]
      rw [show a + lenN n e2 + 1 + (flD n (a + lenN n e2 + 1) (b + (waitN n e2).length) l).2.length = a + (lenN n e2 + ((flD n (a + lenN n e2 + 1) (b + (waitN n e2).length) l).2.length + 1)) by omega, Nat.add_assoc b]
section
variable (B3 A1 A2 A4 A5 : Option Addr) (m3 d3 c1 c2 c4 c5 np ng n4 nw : Nat) (xp : List Value) (gs : List SegD) (w : World)

end
end
/- Code of a tree: what each path, and each filter, has (plain; no word of a dump). -/
section

/-- l stands in m at k. -/
def At {α : Type} (l m : List α) (k : Nat) : Prop := ∃ A B, m = A ++ (l ++ B) ∧ A.length = k
section
variable {α : Type} {l m l1 l2 : List α} {k j : Nat}
theorem At.app (h : At l m k) (r : List α) : At l (m ++ r) k := by
  obtain ⟨A, B, rfl, h2⟩ := h
  exact ⟨A, B ++ r, by simp, h2⟩
theorem At.new (m l : List α) : At l (m ++ l) m.length := ⟨m, [], by simp, rfl⟩
theorem At.get (h : At l m k) (hj : j < l.length) : m[k + j]? = l[j]? := by
  obtain ⟨A, B, rfl, rfl⟩ := h
  rw [List.getElem?_append_right (by omega), Nat.add_sub_cancel_left, List.getElem?_append_left hj]
theorem At.le (h : At l m k) : k + l.length ≤ m.length := by
  obtain ⟨A, B, rfl, rfl⟩ := h
  simp
theorem At.pre (l r : List α) : At l (l ++ r) 0 := ⟨[], r, by simp, rfl⟩
theorem At.suf (l r : List α) (h : l.length = k) : At r (l ++ r) k := ⟨l, [], by simp, h⟩
theorem At.drop (h : At l m k) : ∃ r, m.drop k = l ++ r := by
  obtain ⟨A, B, rfl, rfl⟩ := h
  exact ⟨B, by rw [List.drop_left]⟩
end

/-- Where a path has been laid. -/
structure Spot (n : Nat) (c : CodeD) (Wl : List PathT) (i : Nat) (q : PathT) (g0 s0 a0 b0 : Nat) : Prop where
  p : c.ps[i]? = some ⟨q.abs, g0, (g0 + q.segs.length : Nat)⟩
  g : At (gsD s0 q.segs) c.gs g0
  s : At (flD n a0 b0 (selsOf q.segs)).1 c.ss s0
  a : At (flD n a0 b0 (selsOf q.segs)).2 c.is a0
  w : At (flW n (selsOf q.segs)) Wl b0
  lt : i < b0
/-- Code as the maker leaves it: all paths up to one are laid. -/
structure Good (S : List UInt8 → Prop) (n : Nat) (c : CodeD) (Wl : List PathT) : Prop where
  len : c.ps.length ≤ Wl.length
  wf : ∀ q ∈ Wl, WfP S (WfN S n) q
  spot : ∀ i, i < c.ps.length → ∃ q g0 s0 a0 b0, Wl[i]? = some q ∧ Spot n c Wl i q g0 s0 a0 b0
  segs : ∀ s ∈ c.gs, 0 ≤ s.fr ∧ s.fr < s.tt ∧ s.tt ≤ (c.ss.length : Nat)
  kinds : ∀ y ∈ c.ss, 0 ≤ y.kind ∧ y.kind ≤ 4
  cov : ∀ k, k < c.is.length → ∃ i q g0 s0 a0 b0, Wl[i]? = some q ∧ Spot n c Wl i q g0 s0 a0 b0 ∧ a0 ≤ k ∧ k < a0 + (flD n a0 b0 (selsOf q.segs)).2.length
section
variable {S : List UInt8 → Prop} {n : Nat} {c : CodeD} {Wl : List PathT}
theorem gsD_bd : ∀ (l : List SegT) (a : Nat), (∀ s ∈ l, s.sels ≠ []) → ∀ s ∈ gsD a l, (a : Int) ≤ s.fr ∧ s.fr < s.tt ∧ s.tt ≤ (a + (selsOf l).length : Nat)
  | [], _, _, s, h => by simp [gsD] at h
  | x :: r, a, hl, s, h => by
    rw [gsD] at h
    have e : (selsOf (x :: r)).length = x.sels.length + (selsOf r).length := by unfold selsOf; rw [List.flatMap_cons, List.length_append]
    have hx : 0 < x.sels.length := List.length_pos_iff.2 (hl x (by simp))
    rcases List.mem_cons.1 h with rfl | h
    · simp only; omega
    · have := gsD_bd r _ (fun s hs => hl s (by simp [hs])) s h
      omega
theorem selD_kind {W : ExprT → Prop} {y : SelT} {a : Int} (h : WfS S W y) : 0 ≤ (selD y a).kind ∧ (selD y a).kind ≤ 4 := by
  unfold selD
  cases h <;> simp
theorem flD_kind : ∀ (l : List SelT) (a b : Nat), (∀ y ∈ l, WfS S (WfN S n) y) → ∀ y ∈ (flD n a b l).1, 0 ≤ y.kind ∧ y.kind ≤ 4
  | [], _, _, _, y, h => by simp [flD] at h
  | x :: r, a, b, hl, y, h => by
    have hx := hl x (by simp)
    have hr := fun a b => flD_kind r a b (fun y hy => hl y (by simp [hy])) y
    rw [flD] at h
    cases hf : x.f with
    | none =>
      rw [hf] at h
      rcases List.mem_cons.1 h with rfl | h
      · exact selD_kind hx
      · exact hr _ _ h
    | some e =>
      rw [hf] at h
      rcases List.mem_cons.1 h with rfl | h
      · exact selD_kind hx
      · exact hr _ _ h
theorem Spot.more {i : Nat} {q : PathT} {g0 s0 a0 b0 : Nat} (h : Spot n c Wl i q g0 s0 a0 b0) (p' : List PathD) (g' : List SegD) (s' : List SelD) (a' : List InsD) (w' : List PathT) : Spot n ⟨c.ps ++ p', c.gs ++ g', c.ss ++ s', c.is ++ a'⟩ (Wl ++ w') i q g0 s0 a0 b0 := by
  refine ⟨?_, h.g.app _, h.s.app _, h.a.app _, h.w.app _, h.lt⟩
  show (c.ps ++ p')[i]? = _
  rw [List.getElem?_append_left (List.getElem?_eq_some_iff.1 h.p).1]
  exact h.p
theorem Good.step {p : PathT} {r : List PathT} (h : Good S n c Wl) (hd : Wl.drop c.ps.length = p :: r) : Good S n (layP n (c.ps.length + 1 + r.length) c p) (Wl ++ flW n (selsOf p.segs)) ∧ (Wl ++ flW n (selsOf p.segs)).drop (c.ps.length + 1) = r ++ flW n (selsOf p.segs) := by
  have hl : Wl.length = c.ps.length + 1 + r.length := by
    have := congrArg List.length hd
    simp at this; have := h.len; omega
  have hp : Wl[c.ps.length]? = some p := by
    have := congrArg (fun l => l[0]?) hd
    simpa [List.getElem?_drop] using this
  have hw : WfP S (WfN S n) p := h.wf p (List.mem_of_getElem? hp)
  have new : Spot n (layP n (c.ps.length + 1 + r.length) c p) (Wl ++ flW n (selsOf p.segs)) c.ps.length p c.gs.length c.ss.length c.is.length (c.ps.length + 1 + r.length) := by
    refine ⟨?_, At.new _ _, At.new _ _, At.new _ _, ?_, by omega⟩
    · show (c.ps ++ [_])[c.ps.length]? = _
      rw [List.getElem?_append_right (Nat.le_refl _), Nat.sub_self]; rfl
    · rw [← hl]; exact At.new _ _
  have hp' : (Wl ++ flW n (selsOf p.segs))[c.ps.length]? = some p := by rw [List.getElem?_append_left (by omega)]; exact hp
  refine ⟨⟨?_, ?_, ?_, ?_, ?_, ?_⟩, ?_⟩
  · show (c.ps ++ [_]).length ≤ _
    rw [List.length_append, List.length_append, List.length_singleton]; omega
  · intro q hq
    rcases List.mem_append.1 hq with hq | hq
    · exact h.wf q hq
    · exact flW_mem (sels_wf hw) hq
  · intro i hi
    have hi' : i < c.ps.length + 1 := by simpa [layP] using hi
    rcases Nat.lt_or_ge i c.ps.length with hlt | hge
    · obtain ⟨q, g0, s0, a0, b0, e1, e2⟩ := h.spot i hlt
      exact ⟨q, g0, s0, a0, b0, by rw [List.getElem?_append_left (List.getElem?_eq_some_iff.1 e1).1]; exact e1, e2.more _ _ _ _ _⟩
    · obtain rfl : i = c.ps.length := by omega
      exact ⟨p, _, _, _, _, hp', new⟩
  · intro s hs
    have hs' : s ∈ c.gs ++ gsD c.ss.length p.segs := hs
    show _ ∧ _ ∧ s.tt ≤ ((c.ss ++ (flD n c.is.length _ (selsOf p.segs)).1).length : Nat)
    rw [List.length_append, flD_len]
    rcases List.mem_append.1 hs' with hs | hs
    · have := h.segs s hs; omega
    · have := gsD_bd p.segs c.ss.length (fun s hs => (hw s hs).1) s hs; omega
  · intro y hy
    rcases List.mem_append.1 (show y ∈ c.ss ++ _ from hy) with hy | hy
    · exact h.kinds y hy
    · exact flD_kind _ _ _ (sels_wf hw) y hy
  · intro k hk
    have hk' : k < c.is.length + (flD n c.is.length (c.ps.length + 1 + r.length) (selsOf p.segs)).2.length := by
      have : k < (c.is ++ (flD n c.is.length (c.ps.length + 1 + r.length) (selsOf p.segs)).2).length := hk
      rwa [List.length_append] at this
    rcases Nat.lt_or_ge k c.is.length with hlt | hge
    · obtain ⟨i, q, g0, s0, a0, b0, e1, e2, e3⟩ := h.cov k hlt
      exact ⟨i, q, g0, s0, a0, b0, by rw [List.getElem?_append_left (List.getElem?_eq_some_iff.1 e1).1]; exact e1, e2.more _ _ _ _ _, e3⟩
    · exact ⟨c.ps.length, p, _, _, _, _, hp', new, hge, hk'⟩
  · rw [List.drop_append_of_le_length (by omega)]
    have : Wl.drop (c.ps.length + 1) = r := by rw [← List.drop_drop, hd]; rfl
    rw [this]
/-- How great code is. -/
def szC (c : CodeD) : Nat := c.ps.length + c.gs.length + c.ss.length + c.is.length
theorem lay_size (c : CodeD) (p : PathT) (b : Nat) (h : WfP S (WfN S n) p) : szC (layP n b c p) + ((flW n (selsOf p.segs)).map (wtP (wtN n))).sum ≤ szC c + wtP (wtN n) p := by
  have := path_cost n p c.is.length b h
  unfold szC layP
  simp only [List.length_append, List.length_singleton, gsD_len, flD_len]
  omega
theorem make_good : ∀ (f : Nat) (c : CodeD) (Wl pend : List PathT), Good S n c Wl → Wl.drop c.ps.length = pend → (pend.map (wtP (wtN n))).sum ≤ f →
    ∃ Wl', Good S n (makeL n f c pend) Wl' ∧ (makeL n f c pend).ps.length = Wl'.length ∧ szC (makeL n f c pend) ≤ szC c + (pend.map (wtP (wtN n))).sum ∧ Wl <+: Wl'
  | 0, c, Wl, [], h, hd, _ => ⟨Wl, h, by have := congrArg List.length hd; simp at this; have := h.len; simp only [makeL]; omega, by simp [makeL], List.prefix_refl _⟩
  | _ + 1, c, Wl, [], h, hd, _ => ⟨Wl, h, by have := congrArg List.length hd; simp at this; have := h.len; simp only [makeL]; omega, by simp [makeL], List.prefix_refl _⟩
  | 0, c, Wl, p :: r, _, _, hf => by exfalso; rw [List.map_cons, List.sum_cons] at hf; unfold wtP at hf; omega
  | f + 1, c, Wl, p :: r, h, hd, hf => by
    obtain ⟨h1, h2⟩ := h.step hd
    have hp : p ∈ Wl := List.mem_of_mem_drop (by rw [hd]; simp : p ∈ Wl.drop c.ps.length)
    have h3 := lay_size c p (c.ps.length + 1 + r.length) (h.wf p hp)
    have h4 : (layP n (c.ps.length + 1 + r.length) c p).ps.length = c.ps.length + 1 := by simp [layP]
    have h5 := path_cost n p c.is.length (c.ps.length + 1 + r.length) (h.wf p hp)
    rw [List.map_cons, List.sum_cons] at hf ⊢
    obtain ⟨Wl', k1, k2, k3, k4⟩ := make_good f _ _ (r ++ flW n (selsOf p.segs)) h1 (by rw [h4]; exact h2) (by rw [List.map_append, List.sum_append]; omega)
    rw [List.map_append, List.sum_append] at k3
    exact ⟨Wl', k1, k2, by rw [makeL]; omega, (List.prefix_append _ _).trans k4⟩
end
/-- A query's code. -/
theorem code_good {S : List UInt8 → Prop} {p : PathT} (h : WfP S (WfN S 200) p) (hw : wtP (wtN 200) p ≤ 5000) :
    ∃ Wl, Good S 200 (codeT p) Wl ∧ (codeT p).ps.length = Wl.length ∧ szC (codeT p) ≤ wtP (wtN 200) p ∧ Wl[0]? = some p := by
  have h0 : Good S 200 code0 [p] := ⟨by simp [code0], by simpa using h, fun i hi => by simp [code0] at hi, fun s hs => by simp [code0] at hs, fun s hs => by simp [code0] at hs, fun k hk => by simp [code0] at hk⟩
  obtain ⟨Wl, h1, h2, h3, h4⟩ := make_good 5000 code0 [p] [p] h0 rfl (by simpa using hw)
  refine ⟨Wl, h1, h2, by rw [List.map_cons, List.map_nil, List.sum_cons, List.sum_nil, show szC code0 = 0 from rfl, Nat.zero_add, Nat.add_zero] at h3; exact h3, ?_⟩
  obtain ⟨r, rfl⟩ := h4
  rfl

end
/- ref19: path, of whatever tree (printed by gen_cl.py). -/
section
open Go.RowKit

section
variable {S : List UInt8 → Prop} {wT : World} {n : Nat}
theorem flD_pre {N : Nat} : ∀ (l r : List SelT) (a b : Nat), (flD N a b l).2.length ≤ (flD N a b (l ++ r)).2.length
  | [], _, _, _ => by simp [flD]
  | y :: l, r, a, b => by
    rw [List.cons_append, flD, flD]
    have := fun a b => flD_pre (N := N) l r a b
    cases y.f with
    | none => exact this _ _
    | some e => simp only [List.length_append, List.length_cons]; have := this (a + lenN N e + 1) (b + (waitN N e).length); omega
theorem flW_app {N : Nat} : ∀ l r : List SelT, flW N (l ++ r) = flW N l ++ flW N r
  | [], _ => rfl
  | y :: l, r => by rw [List.cons_append, flW, flW, flW_app l r, List.append_assoc]
theorem len_le_sum {α : Type} (f : α → Nat) : ∀ l : List α, (∀ x ∈ l, 1 ≤ f x) → l.length ≤ (l.map f).sum
  | [], _ => Nat.le_refl _
  | x :: l, h => by
    have := len_le_sum f l fun y hy => h y (by simp [hy])
    have := h x (by simp)
    rw [List.map_cons, List.sum_cons, List.length_cons]; omega
end

end
/- code: the maker in memory; put, number (printed by gen_za.py). -/
section
open Go.RowKit

section
variable {X : List Nat} {w0 w w' : World} {L L' : List BlkE} {rs rs' : List RowE} {J : World → Prop}
theorem Own.permL (M : Own X w0 w L rs J) (h : L.Perm L') : Own X w0 w L' rs J := by
  have hp : (exO L rs).Perm (exO L' rs) := (h.map _).append_right _
  exact ⟨M.os, M.output, M.size, M.out, fun x hx => M.low x (h.mem_iff.2 hx), fun x hx => M.blk x (h.mem_iff.2 hx), M.row, hp.nodup_iff.1 M.nodup, fun y hy => M.always y ⟨hy.1, fun b h1 h2 => hy.2 b h1 fun h => h2 (hp.mem_iff.2 h)⟩⟩
theorem Own.permR (M : Own X w0 w L rs J) (h : rs.Perm rs') : Own X w0 w L rs' J := by
  have hp : (exO L rs).Perm (exO L rs') := (h.filterMap _).append_left _
  exact ⟨M.os, M.output, M.size, M.out, M.low, M.blk, fun r hr => M.row r (h.mem_iff.2 hr), hp.nodup_iff.1 M.nodup, fun y hy => M.always y ⟨hy.1, fun b h1 h2 => hy.2 b h1 fun h => h2 (hp.mem_iff.2 h)⟩⟩
/-- A cell of a row is turned. -/
theorem Own.rowSet {gr c k n j : Nat} {T : TypeId} {xs : List Value} {u : Value} (M : Own X w0 w L rs J) (hr : UpdR (.slice (some ⟨gr, 0, none⟩) n c, T, k, n, xs) (.slice (some ⟨gr, 0, none⟩) n c, T, k, n, xs.set j u) rs rs') (hj : j < n * k) :
    (∃ v, w.cell? ⟨gr, j, none⟩ = some v) ∧ w.frozen? ⟨gr, j, none⟩ = false ∧ Own X w0 (w.setCell ⟨gr, j, none⟩ u) L rs' J := by
  obtain ⟨A, B, h1, h2⟩ := hr.split
  have hrow := M.row (.slice (some ⟨gr, 0, none⟩) n c, T, k, n, xs) (by rw [h1]; simp)
  rcases hrow.2 with ⟨h, _⟩ | ⟨g', cap, cur, h, hb, hg, hle, hm, hcs, ht⟩
  · cases h
  · simp only [Value.slice.injEq, Option.some.injEq, Addr.mk.injEq, and_true, true_and] at h
    obtain ⟨rfl, rfl⟩ := h
    have hbk : Blk w gr T cur := hg
    have hcur : n * k ≤ cur.size := by rw [hcs]; exact Nat.mul_le_mul_right k hle
    refine ⟨⟨_, (hbk.cell j).trans (Array.getElem?_eq_getElem (by omega))⟩, hbk.frozen j, M.grow hr ⟨by rw [List.length_set]; exact hrow.1, .inr ⟨gr, c, cur.setIfInBounds j u, rfl, hb, hbk.set_ j u, hle, hm, by simpa using hcs, ?_⟩⟩ ⟨rfl, rfl, rfl, by simp, fun b _ hne => Below.heap_setCell w ⟨gr, j, none⟩ u b (by intro e; exact hne (by rw [e]; rfl))⟩ (.inl rfl)⟩
    have ht' : cur.toList.take (n * k) = xs := ht
    rw [← ht']
    simp only [Array.toList_setIfInBounds]
    exact List.take_set ..
variable {P : Program} {S : World → Prop} {ops : Array Oper} {rest : List Oper} {a : Act} {Q : Exit → Act → World → Prop} {K : Act → World → Prop} {md : Region.Mode} {fuel i : Nat} {listed : Array Bool} {is : List Nat} {dst : Option Tmp} {tt : TypeId} {pos : String} {af : Array Edge}
theorem o_st1r {T T' : TypeId} (F : OneF P T) {x y : Operand} {gr c k n j : Nat} {xs : List Value} {v : Value} (hx : a.eval x = .pointer (some ⟨gr, j, none⟩)) (hy : a.eval y = v) (h1 : v.oneCell' = true) (M : Own X w0 w L rs J) (hm : UpdR (.slice (some ⟨gr, 0, none⟩) n c, T', k, n, xs) (.slice (some ⟨gr, 0, none⟩) n c, T', k, n, xs.set j v) rs rs') (hj : j < n * k)
    (h : ∀ w', Own X w0 w' L rs' J → K (a.put dst undef) w') : Oper.wp P ⟨dst, .store T x y, tt, pos, af, none⟩ a w K Q := by
  subst hy
  obtain ⟨h2, h3, M'⟩ := M.rowSet hm hj
  unfold Oper.wp execOp
  simp only [hx, Instr.storeAt, Instr.sureAddr, Sem.run_bind, Sem.run_pure, Result.andThen_ok, run_store1 (P := P) gr j T _ h1 h2 h3 F.s]
  exact h _ M'
theorem r_st1r {T T' : TypeId} (F : OneF P T) {x y : Operand} (ho : ops[i]? = some ⟨dst, .store T x y, tt, pos, af, none⟩) {gr c k n j : Nat} {xs : List Value} {v : Value} (hx : a.eval x = .pointer (some ⟨gr, j, none⟩)) (hy : a.eval y = v) (h1 : v.oneCell' = true) (M : Own X w0 w L rs J) (hm : UpdR (.slice (some ⟨gr, 0, none⟩) n c, T', k, n, xs) (.slice (some ⟨gr, 0, none⟩) n c, T', k, n, xs.set j v) rs rs') (hj : j < n * k)
    (h : ∀ w', Hid (Own X w0 w' L rs' J) → S w' ∧ wpAnyH P md ops Q S fuel (listed.setIfInBounds i true) (a.put dst undef) w') (hs : AllReadyH P md ops Q S fuel listed a w is) : AllReadyH P md ops Q S fuel listed a w (i :: is) :=
  rdy ho rfl (fun _ hK => o_st1r F hx hy h1 M hm hj fun w' M => hK.out _ _ (h w' (Lib.hid M)).1 fun _ => (h w' (Lib.hid M)).2) hs
end
/-- The maker at a pointer: what it has laid, and the paths that wait. -/
def MkR (v1 v2 v3 v4 v5 : Value) (c : CodeD) (W : List (PathT × Value)) (rs : List RowE) : List RowE :=
  (v1, 53, 3, c.ps.length, c.ps.flatMap pathC) :: (v2, 55, 3, c.gs.length, c.gs.flatMap segC) :: (v3, 57, 8, c.ss.length, c.ss.flatMap selC) :: (v4, 59, 7, c.is.length, c.is.flatMap insC) :: (v5, 37, 2, W.length, W.flatMap wC) :: rs
def MkS (w0 w : World) (g : Nat) (L : List BlkE) (rs : List RowE) (J : World → Prop) (c : CodeD) (W : List (PathT × Value)) : Prop :=
  ∃ v1 v2 v3 v4 v5, Own [] w0 w ((g, 71, #[v1, v2, v3, v4, v5]) :: L) (MkR v1 v2 v3 v4 v5 c W rs) J
section
variable {w0 : World} {L : List BlkE} {rs : List RowE} {J : World → Prop}

set_option maxRecDepth 100000 in
set_option maxHeartbeats 2000000 in
theorem mput_any (g : Nat) (c : CodeD) (W : List (PathT × Value)) (x : InsD) (w : World) (h : MkS w0 w g L rs J c W) (hl : c.is.length ≤ 999999) : Calls Tryz.prog 48 #[.pointer (some ⟨g, 0, none⟩), .agg #[.int .i64 x.op, .int .i64 x.p, .int .i64 x.sign, .int .i64 x.kind, .int .i64 x.n, .string x.s, .int .i64 x.tt]] w fun e w' => e = .returned (.int .i64 (c.is.length : Int)) ∧ MkS w0 w' g L rs J ⟨c.ps, c.gs, c.ss, c.is ++ [x]⟩ W := by
  obtain ⟨v1, v2, v3, v4, v5, hM⟩ := h
  unfold MkR at hM
  have M := Lib.hid hM
  clear hM
  go_enter Tryz.func48, Tryz.ntmps48
  go_upto_region 1 with (first | ((with_reducible refine g_bx 59 3 ?_); refine l_bx rfl M.out ?_; clear M; intro g3 w' hg3 M; replace M := Lib.hid M.out.freeze))
  replace M := Lib.hid M.out.drew
  refine tb (fun y => J y ∧ Blk y g3 59 #[.int .i64 x.op, .int .i64 x.p, .int .i64 x.sign, .int .i64 x.kind, .int .i64 x.n, .string x.s, .int .i64 x.tt]) M.out.now ?_
  refine tkp 0 rfl M.out.now ?_
  refine tkp 1 rfl M.out.now ?_
  refine tkp 2 rfl M.out.now ?_
  refine tkp 3 rfl M.out.now ?_
  refine tkp 4 rfl M.out.now ?_
  refine tk 6 rfl M.out.now (y_ld F_Ins _ _ rfl _ _ (fun _ h => h.2) rfl) ?_
  refine tr [5, 7] ?_
  refine r_ld1 O_sIns (i := 5) rfl rfl M.out (by repeat constructor) (by exact rfl) ?_ ?_
  · refine ⟨M.out.now, tn ?_⟩
    refine tr [7] ?_
    refine r_bs SL_sIns (i := 7) rfl (cs := #[.int .i64 x.op, .int .i64 x.p, .int .i64 x.sign, .int .i64 x.kind, .int .i64 x.n, .string x.s, .int .i64 x.tt]) (by kernel_rfl) M.out ?_ ?_
    · clear M; intro gb w' hgb M; refine ⟨M.out.now, tn ?_⟩
      refine tr [8] ?_
      refine r_apB SL_sIns (i := 8) rfl rfl rfl M.out (by repeat constructor) (by repeat constructor) (by exact rfl) (by exact rfl) (by unfold maxLen; omega) (by omega) ?_ ?_
      · intro vn w' Mn; replace Mn := Mn _ (by repeat constructor); replace M := Lib.hid Mn; clear Mn; obtain ⟨An, cn, hvn, -⟩ := own_reads (M.out.row (vn, _) (by repeat constructor)); simp only at hvn; subst hvn; refine ⟨M.out.now, tn ?_⟩
        refine tkp 9 rfl M.out.now ?_
        refine tkp 10 rfl M.out.now ?_
        refine tkp 11 rfl M.out.now ?_
        refine tr [12] ?_
        refine r_st1 O_sIns (v := .slice An (c.is.length + 1) cn) (i := 12) rfl rfl rfl rfl M.out (by repeat constructor) ?_ ?_
        · clear M; intro w' M; refine ⟨M.out.now, tn ?_⟩
          refine te ?_
          replace M := Lib.hid (M.out.freeze.imp (J' := J) fun y h => h.1.1)
          go_wp2_with (first | ((with_reducible refine g_ld 26 ?_); refine l_ld1 O_sIns rfl M.out (by repeat constructor) (by exact rfl) ?_))
          go_ret
          exact ⟨by first | rfl | simp | go_num, v1, v2, v3, (.slice An (c.is.length + 1) cn), v5, by have h := M.out; unfold MkR; simpa [insC] using h⟩
        exact .nil
      exact .nil
    exact .nil
  refine r_bs SL_sIns (i := 7) rfl (cs := #[.int .i64 x.op, .int .i64 x.p, .int .i64 x.sign, .int .i64 x.kind, .int .i64 x.n, .string x.s, .int .i64 x.tt]) (by kernel_rfl) M.out ?_ ?_
  · clear M; intro gb w' hgb M; refine ⟨M.out.now, tn ?_⟩
    refine tr [5] ?_
    refine r_ld1 O_sIns (i := 5) rfl rfl M.out (by repeat constructor) (by exact rfl) ?_ ?_
    · refine ⟨M.out.now, tn ?_⟩
      refine tr [8] ?_
      refine r_apB SL_sIns (i := 8) rfl rfl rfl M.out (by repeat constructor) (by repeat constructor) (by exact rfl) (by exact rfl) (by unfold maxLen; omega) (by omega) ?_ ?_
      · intro vn w' Mn; replace Mn := Mn _ (by repeat constructor); replace M := Lib.hid Mn; clear Mn; obtain ⟨An, cn, hvn, -⟩ := own_reads (M.out.row (vn, _) (by repeat constructor)); simp only at hvn; subst hvn; refine ⟨M.out.now, tn ?_⟩
        refine tkp 9 rfl M.out.now ?_
        refine tkp 10 rfl M.out.now ?_
        refine tkp 11 rfl M.out.now ?_
        refine tr [12] ?_
        refine r_st1 O_sIns (v := .slice An (c.is.length + 1) cn) (i := 12) rfl rfl rfl rfl M.out (by repeat constructor) ?_ ?_
        · clear M; intro w' M; refine ⟨M.out.now, tn ?_⟩
          refine te ?_
          replace M := Lib.hid (M.out.freeze.imp (J' := J) fun y h => h.1.1)
          go_wp2_with (first | ((with_reducible refine g_ld 26 ?_); refine l_ld1 O_sIns rfl M.out (by repeat constructor) (by exact rfl) ?_))
          go_ret
          exact ⟨by first | rfl | simp | go_num, v1, v2, v3, (.slice An (c.is.length + 1) cn), v5, by have h := M.out; unfold MkR; simpa [insC] using h⟩
        exact .nil
      exact .nil
    exact .nil
  exact .nil
set_option maxRecDepth 100000 in
set_option maxHeartbeats 2000000 in
theorem mnumber_any (g : Nat) (c : CodeD) (W : List (PathT × Value)) (p : PathT) (A : Option Addr) (m cp : Nat) (w : World) (h : MkS w0 w g L rs J c W) (hl : W.length ≤ 999999) : Calls Tryz.prog 67 #[.pointer (some ⟨g, 0, none⟩), .agg #[.bool p.abs, .slice A m cp]] w fun e w' => e = .returned (.int .i64 (W.length : Int)) ∧ MkS w0 w' g L rs J c (W ++ [(p, .slice A m cp)]) := by
  obtain ⟨v1, v2, v3, v4, v5, hM⟩ := h
  unfold MkR at hM
  have M := Lib.hid hM
  clear hM
  go_enter Tryz.func67, Tryz.ntmps67
  go_upto_region 1 with (first | ((with_reducible refine g_bx 37 3 ?_); refine l_bx rfl M.out ?_; clear M; intro g3 w' hg3 M; replace M := Lib.hid M.out.freeze))
  replace M := Lib.hid M.out.drew
  refine tb (fun y => J y ∧ Blk y g3 37 #[.bool p.abs, .slice A m cp]) M.out.now ?_
  refine tkp 0 rfl M.out.now ?_
  refine tkp 1 rfl M.out.now ?_
  refine tkp 2 rfl M.out.now ?_
  refine tkp 3 rfl M.out.now ?_
  refine tk 5 rfl M.out.now (y_ld F_Path _ _ rfl _ _ (fun _ h => h.2) rfl) ?_
  refine tr [4, 6] ?_
  refine r_ld1 O_sPath (i := 4) rfl rfl M.out (by repeat constructor) (by exact rfl) ?_ ?_
  · refine ⟨M.out.now, tn ?_⟩
    refine tr [6] ?_
    refine r_bs SL_sPath (i := 6) rfl (cs := #[.bool p.abs, .slice A m cp]) (by kernel_rfl) M.out ?_ ?_
    · clear M; intro gb w' hgb M; refine ⟨M.out.now, tn ?_⟩
      refine tr [7] ?_
      refine r_apB SL_sPath (i := 7) rfl rfl rfl M.out (by repeat constructor) (by repeat constructor) (by exact rfl) (by exact rfl) (by unfold maxLen; omega) (by omega) ?_ ?_
      · intro vn w' Mn; replace Mn := Mn _ (by repeat constructor); replace M := Lib.hid Mn; clear Mn; obtain ⟨An, cn, hvn, -⟩ := own_reads (M.out.row (vn, _) (by repeat constructor)); simp only at hvn; subst hvn; refine ⟨M.out.now, tn ?_⟩
        refine tkp 8 rfl M.out.now ?_
        refine tkp 9 rfl M.out.now ?_
        refine tr [10] ?_
        refine r_st1 O_sPath (v := .slice An (W.length + 1) cn) (i := 10) rfl rfl rfl rfl M.out (by repeat constructor) ?_ ?_
        · clear M; intro w' M; refine ⟨M.out.now, tn ?_⟩
          refine te ?_
          replace M := Lib.hid (M.out.freeze.imp (J' := J) fun y h => h.1.1)
          go_wp2_with (first | ((with_reducible refine g_ld 69 ?_); refine l_ld1 O_sPath rfl M.out (by repeat constructor) (by exact rfl) ?_))
          go_ret
          exact ⟨by first | rfl | simp | go_num, v1, v2, v3, v4, (.slice An (W.length + 1) cn), by have h := M.out; unfold MkR; simpa [wC] using h⟩
        exact .nil
      exact .nil
    exact .nil
  refine r_bs SL_sPath (i := 6) rfl (cs := #[.bool p.abs, .slice A m cp]) (by kernel_rfl) M.out ?_ ?_
  · clear M; intro gb w' hgb M; refine ⟨M.out.now, tn ?_⟩
    refine tr [4] ?_
    refine r_ld1 O_sPath (i := 4) rfl rfl M.out (by repeat constructor) (by exact rfl) ?_ ?_
    · refine ⟨M.out.now, tn ?_⟩
      refine tr [7] ?_
      refine r_apB SL_sPath (i := 7) rfl rfl rfl M.out (by repeat constructor) (by repeat constructor) (by exact rfl) (by exact rfl) (by unfold maxLen; omega) (by omega) ?_ ?_
      · intro vn w' Mn; replace Mn := Mn _ (by repeat constructor); replace M := Lib.hid Mn; clear Mn; obtain ⟨An, cn, hvn, -⟩ := own_reads (M.out.row (vn, _) (by repeat constructor)); simp only at hvn; subst hvn; refine ⟨M.out.now, tn ?_⟩
        refine tkp 8 rfl M.out.now ?_
        refine tkp 9 rfl M.out.now ?_
        refine tr [10] ?_
        refine r_st1 O_sPath (v := .slice An (W.length + 1) cn) (i := 10) rfl rfl rfl rfl M.out (by repeat constructor) ?_ ?_
        · clear M; intro w' M; refine ⟨M.out.now, tn ?_⟩
          refine te ?_
          replace M := Lib.hid (M.out.freeze.imp (J' := J) fun y h => h.1.1)
          go_wp2_with (first | ((with_reducible refine g_ld 69 ?_); refine l_ld1 O_sPath rfl M.out (by repeat constructor) (by exact rfl) ?_))
          go_ret
          exact ⟨by first | rfl | simp | go_num, v1, v2, v3, v4, (.slice An (W.length + 1) cn), by have h := M.out; unfold MkR; simpa [wC] using h⟩
        exact .nil
      exact .nil
    exact .nil
  exact .nil
theorem MkS.now {w : World} {g : Nat} {c : CodeD} {W : List (PathT × Value)} (h : MkS w0 w g L rs J c W) : J w := by
  obtain ⟨v1, v2, v3, v4, v5, M⟩ := h
  exact M.now
theorem MkS.bel0 {w : World} {g : Nat} {c : CodeD} {W : List (PathT × Value)} (h : MkS w0 w g L rs J c W) : Bel w0.heap.size w0 w := by
  obtain ⟨v1, v2, v3, v4, v5, M⟩ := h
  exact M.bel0
theorem MkS.drew {w : World} {g : Nat} {c : CodeD} {W : List (PathT × Value)} (h : MkS w0 w g L rs J c W) : MkS w0 w.drew g L rs J c W := by
  obtain ⟨v1, v2, v3, v4, v5, M⟩ := h
  exact ⟨v1, v2, v3, v4, v5, M.drew⟩
theorem MkS.imp {J' : World → Prop} {w : World} {g : Nat} {c : CodeD} {W : List (PathT × Value)} (h : MkS w0 w g L rs J c W) (hJ : ∀ y, J y → J' y) : MkS w0 w g L rs J' c W := by
  obtain ⟨v1, v2, v3, v4, v5, M⟩ := h
  exact ⟨v1, v2, v3, v4, v5, M.imp hJ⟩
theorem own_slice {w : World} {base k n : Nat} {e : TypeId} {v : Value} {xs : List Value} (h : w.ownsRow base e k v n xs) (hn : 0 < n) : ∃ gr c, v = .slice (some ⟨gr, 0, none⟩) n c ∧ n ≤ c ∧ c ≤ maxLen := by
  rcases h.2 with ⟨_, h0⟩ | ⟨g, cap, cur, h1, _, _, h4, h5, _⟩
  · omega
  · exact ⟨g, cap, h1, h4, h5⟩
/-- A row behind the maker's is written no more. -/
theorem MkS.freeze {w : World} {g : Nat} {c : CodeD} {W : List (PathT × Value)} {v : Value} {T : TypeId} {k n : Nat} {xs : List Value} (h : MkS w0 w g L ((v, T, k, n, xs) :: rs) J c W) : ∃ A c', v = .slice A n c' ∧ (∀ a, A = some a → ∃ b, a = ⟨b, 0, none⟩) ∧ (n ≤ c' ∧ c' ≤ maxLen) ∧ MkS w0 w g L rs (fun y => J y ∧ Rdd y k A n xs) c W := by
  obtain ⟨v1, v2, v3, v4, v5, M⟩ := h
  have M1 := M.permR (rs' := (v, T, k, n, xs) :: MkR v1 v2 v3 v4 v5 c W rs) (by unfold MkR; exact List.perm_middle (l₁ := [_, _, _, _, _]))
  obtain ⟨A, c', hv, hc, _, M2⟩ := M1.freezeRow
  exact ⟨A, c', hv, row_form (M1.row _ List.mem_cons_self) hv, hc, v1, v2, v3, v4, v5, M2⟩
theorem l_ldb {P : Program} {w : World} {ops : Array Oper} {rest : List Oper} {a : Act} {Q : Exit → Act → World → Prop} {dst : Option Tmp} {tt : TypeId} {pos : String} {af : Array Edge} {T : TypeId} {n : Nat} {z : Array Value} (F : TyF P T n z) {x : Operand} {g : Nat} {T' : TypeId} {cs : Array Value} (hx : a.eval x = .pointer (some ⟨g, 0, none⟩)) (hb : Blk w g T' cs) (hn : cs.size = n)
    (h : wpList P ops Q rest (a.put dst (.agg cs)) w) : wpList P ops Q (⟨dst, .load T x, tt, pos, af, none⟩ :: rest) a w := by
  obtain ⟨d, hu, hd⟩ := F.u
  exact wpList_load_row rfl T x rfl g hx T' cs (0, 0) d hb hu (by cases d <;> first | rfl | cases hd) (by rw [hn]; exact F.s) h
end

end

end Go.Proofs.YtpcbcodmocmilaaGreatDoor
