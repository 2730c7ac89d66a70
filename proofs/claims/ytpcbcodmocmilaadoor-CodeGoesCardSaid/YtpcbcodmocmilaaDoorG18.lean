/- G18: Cc, Cl joined. -/
import Derived.Test.YtpcbcodmocmilaaDoorCb
import Derived.Test.YtpcbcodmocmilaaDoorG17
namespace Go.Proofs.YtpcbcodmocmilaaDoor
open Go.RowKit
/- Code of a tree: what each path, and each filter, has (plain; no word of a dump). -/
section

/-- l stands in m at k. -/
def At {α : Type} (l m : List α) (k : Nat) : Prop := ∃ A B, m = A ++ (l ++ B) ∧ A.length = k
section
variable {α : Type} {l m l1 l2 : List α} {k j : Nat}
theorem At.app (h : At l m k) (r : List α) : At l (m ++ r) k := by
  obtain ⟨A, B, rfl, h2⟩ := h
  exact ⟨A, B ++ r, by simp, h2⟩
theorem At.new (m l : List α) : At l (m ++ l) m.length := ⟨m, [], by simp, rfl⟩
theorem At.get (h : At l m k) (hj : j < l.length) : m[k + j]? = l[j]? := by
  obtain ⟨A, B, rfl, rfl⟩ := h
  rw [List.getElem?_append_right (by omega), Nat.add_sub_cancel_left, List.getElem?_append_left hj]
theorem At.le (h : At l m k) : k + l.length ≤ m.length := by
  obtain ⟨A, B, rfl, rfl⟩ := h
  simp
theorem At.sub (h : At l m k) (h1 : At l1 l j) : At l1 m (k + j) := by
  obtain ⟨A, B, rfl, rfl⟩ := h
  obtain ⟨A1, B1, rfl, rfl⟩ := h1
  exact ⟨A ++ A1, B1 ++ B, by simp, by simp⟩
theorem At.pre (l r : List α) : At l (l ++ r) 0 := ⟨[], r, by simp, rfl⟩
theorem At.suf (l r : List α) (h : l.length = k) : At r (l ++ r) k := ⟨l, [], by simp, h⟩
theorem At.drop (h : At l m k) : ∃ r, m.drop k = l ++ r := by
  obtain ⟨A, B, rfl, rfl⟩ := h
  exact ⟨B, by rw [List.drop_left]⟩
end

/-- Where a path has been laid. -/
structure Spot (n : Nat) (c : CodeD) (Wl : List PathT) (i : Nat) (q : PathT) (g0 s0 a0 b0 : Nat) : Prop where
  p : c.ps[i]? = some ⟨q.abs, g0, (g0 + q.segs.length : Nat)⟩
  g : At (gsD s0 q.segs) c.gs g0
  s : At (flD n a0 b0 (selsOf q.segs)).1 c.ss s0
  a : At (flD n a0 b0 (selsOf q.segs)).2 c.is a0
  w : At (flW n (selsOf q.segs)) Wl b0
  lt : i < b0
/-- Code as the maker leaves it: all paths up to one are laid. -/
structure Good (S : List UInt8 → Prop) (n : Nat) (c : CodeD) (Wl : List PathT) : Prop where
  len : c.ps.length ≤ Wl.length
  wf : ∀ q ∈ Wl, WfP S (WfN S n) q
  spot : ∀ i, i < c.ps.length → ∃ q g0 s0 a0 b0, Wl[i]? = some q ∧ Spot n c Wl i q g0 s0 a0 b0
  segs : ∀ s ∈ c.gs, 0 ≤ s.fr ∧ s.fr < s.tt ∧ s.tt ≤ (c.ss.length : Nat)
  kinds : ∀ y ∈ c.ss, 0 ≤ y.kind ∧ y.kind ≤ 4
  cov : ∀ k, k < c.is.length → ∃ i q g0 s0 a0 b0, Wl[i]? = some q ∧ Spot n c Wl i q g0 s0 a0 b0 ∧ a0 ≤ k ∧ k < a0 + (flD n a0 b0 (selsOf q.segs)).2.length
section
variable {S : List UInt8 → Prop} {n : Nat} {c : CodeD} {Wl : List PathT}
theorem gsD_bd : ∀ (l : List SegT) (a : Nat), (∀ s ∈ l, s.sels ≠ []) → ∀ s ∈ gsD a l, (a : Int) ≤ s.fr ∧ s.fr < s.tt ∧ s.tt ≤ (a + (selsOf l).length : Nat)
  | [], _, _, s, h => by simp [gsD] at h
  | x :: r, a, hl, s, h => by
    rw [gsD] at h
    have e : (selsOf (x :: r)).length = x.sels.length + (selsOf r).length := by unfold selsOf; rw [List.flatMap_cons, List.length_append]
    have hx : 0 < x.sels.length := List.length_pos_iff.2 (hl x (by simp))
    rcases List.mem_cons.1 h with rfl | h
    · simp only; omega
    · have := gsD_bd r _ (fun s hs => hl s (by simp [hs])) s h
      omega
theorem selD_kind {W : ExprT → Prop} {y : SelT} {a : Int} (h : WfS S W y) : 0 ≤ (selD y a).kind ∧ (selD y a).kind ≤ 4 := by
  unfold selD
  cases h <;> simp
theorem flD_kind : ∀ (l : List SelT) (a b : Nat), (∀ y ∈ l, WfS S (WfN S n) y) → ∀ y ∈ (flD n a b l).1, 0 ≤ y.kind ∧ y.kind ≤ 4
  | [], _, _, _, y, h => by simp [flD] at h
  | x :: r, a, b, hl, y, h => by
    have hx := hl x (by simp)
    have hr := fun a b => flD_kind r a b (fun y hy => hl y (by simp [hy])) y
    rw [flD] at h
    cases hf : x.f with
    | none =>
      rw [hf] at h
      rcases List.mem_cons.1 h with rfl | h
      · exact selD_kind hx
      · exact hr _ _ h
    | some e =>
      rw [hf] at h
      rcases List.mem_cons.1 h with rfl | h
      · exact selD_kind hx
      · exact hr _ _ h
theorem Spot.more {i : Nat} {q : PathT} {g0 s0 a0 b0 : Nat} (h : Spot n c Wl i q g0 s0 a0 b0) (p' : List PathD) (g' : List SegD) (s' : List SelD) (a' : List InsD) (w' : List PathT) : Spot n ⟨c.ps ++ p', c.gs ++ g', c.ss ++ s', c.is ++ a'⟩ (Wl ++ w') i q g0 s0 a0 b0 := by
  refine ⟨?_, h.g.app _, h.s.app _, h.a.app _, h.w.app _, h.lt⟩
  show (c.ps ++ p')[i]? = _
  rw [List.getElem?_append_left (List.getElem?_eq_some_iff.1 h.p).1]
  exact h.p
theorem Good.step {p : PathT} {r : List PathT} (h : Good S n c Wl) (hd : Wl.drop c.ps.length = p :: r) : Good S n (layP n (c.ps.length + 1 + r.length) c p) (Wl ++ flW n (selsOf p.segs)) ∧ (Wl ++ flW n (selsOf p.segs)).drop (c.ps.length + 1) = r ++ flW n (selsOf p.segs) := by
  have hl : Wl.length = c.ps.length + 1 + r.length := by
    have := congrArg List.length hd
    simp at this; have := h.len; omega
  have hp : Wl[c.ps.length]? = some p := by
    have := congrArg (fun l => l[0]?) hd
    simpa [List.getElem?_drop] using this
  have hw : WfP S (WfN S n) p := h.wf p (List.mem_of_getElem? hp)
  have new : Spot n (layP n (c.ps.length + 1 + r.length) c p) (Wl ++ flW n (selsOf p.segs)) c.ps.length p c.gs.length c.ss.length c.is.length (c.ps.length + 1 + r.length) := by
    refine ⟨?_, At.new _ _, At.new _ _, At.new _ _, ?_, by omega⟩
    · show (c.ps ++ [_])[c.ps.length]? = _
      rw [List.getElem?_append_right (Nat.le_refl _), Nat.sub_self]; rfl
    · rw [← hl]; exact At.new _ _
  have hp' : (Wl ++ flW n (selsOf p.segs))[c.ps.length]? = some p := by rw [List.getElem?_append_left (by omega)]; exact hp
  refine ⟨⟨?_, ?_, ?_, ?_, ?_, ?_⟩, ?_⟩
  · show (c.ps ++ [_]).length ≤ _
    rw [List.length_append, List.length_append, List.length_singleton]; omega
  · intro q hq
    rcases List.mem_append.1 hq with hq | hq
    · exact h.wf q hq
    · exact flW_mem (sels_wf hw) hq
  · intro i hi
    have hi' : i < c.ps.length + 1 := by simpa [layP] using hi
    rcases Nat.lt_or_ge i c.ps.length with hlt | hge
    · obtain ⟨q, g0, s0, a0, b0, e1, e2⟩ := h.spot i hlt
      exact ⟨q, g0, s0, a0, b0, by rw [List.getElem?_append_left (List.getElem?_eq_some_iff.1 e1).1]; exact e1, e2.more _ _ _ _ _⟩
    · obtain rfl : i = c.ps.length := by omega
      exact ⟨p, _, _, _, _, hp', new⟩
  · intro s hs
    have hs' : s ∈ c.gs ++ gsD c.ss.length p.segs := hs
    show _ ∧ _ ∧ s.tt ≤ ((c.ss ++ (flD n c.is.length _ (selsOf p.segs)).1).length : Nat)
    rw [List.length_append, flD_len]
    rcases List.mem_append.1 hs' with hs | hs
    · have := h.segs s hs; omega
    · have := gsD_bd p.segs c.ss.length (fun s hs => (hw s hs).1) s hs; omega
  · intro y hy
    rcases List.mem_append.1 (show y ∈ c.ss ++ _ from hy) with hy | hy
    · exact h.kinds y hy
    · exact flD_kind _ _ _ (sels_wf hw) y hy
  · intro k hk
    have hk' : k < c.is.length + (flD n c.is.length (c.ps.length + 1 + r.length) (selsOf p.segs)).2.length := by
      have : k < (c.is ++ (flD n c.is.length (c.ps.length + 1 + r.length) (selsOf p.segs)).2).length := hk
      rwa [List.length_append] at this
    rcases Nat.lt_or_ge k c.is.length with hlt | hge
    · obtain ⟨i, q, g0, s0, a0, b0, e1, e2, e3⟩ := h.cov k hlt
      exact ⟨i, q, g0, s0, a0, b0, by rw [List.getElem?_append_left (List.getElem?_eq_some_iff.1 e1).1]; exact e1, e2.more _ _ _ _ _, e3⟩
    · exact ⟨c.ps.length, p, _, _, _, _, hp', new, hge, hk'⟩
  · rw [List.drop_append_of_le_length (by omega)]
    have : Wl.drop (c.ps.length + 1) = r := by rw [← List.drop_drop, hd]; rfl
    rw [this]
/-- How great code is. -/
def szC (c : CodeD) : Nat := c.ps.length + c.gs.length + c.ss.length + c.is.length
theorem lay_size (c : CodeD) (p : PathT) (b : Nat) (h : WfP S (WfN S n) p) : szC (layP n b c p) + ((flW n (selsOf p.segs)).map (wtP (wtN n))).sum ≤ szC c + wtP (wtN n) p := by
  have := path_cost n p c.is.length b h
  unfold szC layP
  simp only [List.length_append, List.length_singleton, gsD_len, flD_len]
  omega
theorem make_good : ∀ (f : Nat) (c : CodeD) (Wl pend : List PathT), Good S n c Wl → Wl.drop c.ps.length = pend → (pend.map (wtP (wtN n))).sum ≤ f →
    ∃ Wl', Good S n (makeL n f c pend) Wl' ∧ (makeL n f c pend).ps.length = Wl'.length ∧ szC (makeL n f c pend) ≤ szC c + (pend.map (wtP (wtN n))).sum ∧ Wl <+: Wl'
  | 0, c, Wl, [], h, hd, _ => ⟨Wl, h, by have := congrArg List.length hd; simp at this; have := h.len; simp only [makeL]; omega, by simp [makeL], List.prefix_refl _⟩
  | _ + 1, c, Wl, [], h, hd, _ => ⟨Wl, h, by have := congrArg List.length hd; simp at this; have := h.len; simp only [makeL]; omega, by simp [makeL], List.prefix_refl _⟩
  | 0, c, Wl, p :: r, _, _, hf => by exfalso; rw [List.map_cons, List.sum_cons] at hf; unfold wtP at hf; omega
  | f + 1, c, Wl, p :: r, h, hd, hf => by
    obtain ⟨h1, h2⟩ := h.step hd
    have hp : p ∈ Wl := List.mem_of_mem_drop (by rw [hd]; simp : p ∈ Wl.drop c.ps.length)
    have h3 := lay_size c p (c.ps.length + 1 + r.length) (h.wf p hp)
    have h4 : (layP n (c.ps.length + 1 + r.length) c p).ps.length = c.ps.length + 1 := by simp [layP]
    have h5 := path_cost n p c.is.length (c.ps.length + 1 + r.length) (h.wf p hp)
    rw [List.map_cons, List.sum_cons] at hf ⊢
    obtain ⟨Wl', k1, k2, k3, k4⟩ := make_good f _ _ (r ++ flW n (selsOf p.segs)) h1 (by rw [h4]; exact h2) (by rw [List.map_append, List.sum_append]; omega)
    rw [List.map_append, List.sum_append] at k3
    exact ⟨Wl', k1, k2, by rw [makeL]; omega, (List.prefix_append _ _).trans k4⟩
end
/-- A query's code. -/
theorem code_good {S : List UInt8 → Prop} {p : PathT} (h : WfP S (WfN S 200) p) (hw : wtP (wtN 200) p ≤ 5000) :
    ∃ Wl, Good S 200 (codeT p) Wl ∧ (codeT p).ps.length = Wl.length ∧ szC (codeT p) ≤ wtP (wtN 200) p ∧ Wl[0]? = some p := by
  have h0 : Good S 200 code0 [p] := ⟨by simp [code0], by simpa using h, fun i hi => by simp [code0] at hi, fun s hs => by simp [code0] at hs, fun s hs => by simp [code0] at hs, fun k hk => by simp [code0] at hk⟩
  obtain ⟨Wl, h1, h2, h3, h4⟩ := make_good 5000 code0 [p] [p] h0 rfl (by simpa using hw)
  refine ⟨Wl, h1, h2, by rw [List.map_cons, List.map_nil, List.sum_cons, List.sum_nil, show szC code0 = 0 from rfl, Nat.zero_add, Nat.add_zero] at h3; exact h3, ?_⟩
  obtain ⟨r, rfl⟩ := h4
  rfl

end
/- ref19: path, of whatever tree (printed by gen_cl.py). -/
section
open Go.RowKit

section
variable {S : List UInt8 → Prop} {wT : World} {n : Nat}
theorem flD_pre {N : Nat} : ∀ (l r : List SelT) (a b : Nat), (flD N a b l).2.length ≤ (flD N a b (l ++ r)).2.length
  | [], _, _, _ => by simp [flD]
  | y :: l, r, a, b => by
    rw [List.cons_append, flD, flD]
    have := fun a b => flD_pre (N := N) l r a b
    cases y.f with
    | none => exact this _ _
    | some e => simp only [List.length_append, List.length_cons]; have := this (a + lenN N e + 1) (b + (waitN N e).length); omega
theorem flW_app {N : Nat} : ∀ l r : List SelT, flW N (l ++ r) = flW N l ++ flW N r
  | [], _ => rfl
  | y :: l, r => by rw [List.cons_append, flW, flW, flW_app l r, List.append_assoc]
theorem len_le_sum {α : Type} (f : α → Nat) : ∀ l : List α, (∀ x ∈ l, 1 ≤ f x) → l.length ≤ (l.map f).sum
  | [], _ => Nat.le_refl _
  | x :: l, h => by
    have := len_le_sum f l fun y hy => h y (by simp [hy])
    have := h x (by simp)
    rw [List.map_cons, List.sum_cons, List.length_cons]; omega
end

end

end Go.Proofs.YtpcbcodmocmilaaDoor
