/- ref17: Same tells whether any two trees are one. -/
import Derived.Test.YtpcbcodmocmilaaGreatDoorRId
namespace Go.Proofs.YtpcbcodmocmilaaGreatDoor
open Go.RowKit

theorem no_ans {p : Prop} {f : FuncId} {ar : Array Value} {w : World} (hn : ¬ p) (h : Calls Tryz.prog f ar w fun e w' => e = .returned (.bool false) ∧ Bel w.heap.size w w') : Calls Tryz.prog f ar w (Ans p w) :=
  h.mono fun _ _ h => ⟨false, h.1, by simp [hn], h.2⟩
theorem yes_ans {p : Prop} {f : FuncId} {ar : Array Value} {w : World} (hp : p) (h : Calls Tryz.prog f ar w fun e w' => e = .returned (.bool true) ∧ Bel w.heap.size w w') : Calls Tryz.prog f ar w (Ans p w) :=
  h.mono fun _ _ h => ⟨true, h.1, by simp [hp], h.2⟩
theorem is_ans {p : Prop} {b : Bool} {f : FuncId} {ar : Array Value} {w : World} (hb : b = true ↔ p) (h : Calls Tryz.prog f ar w fun e w' => e = .returned (.bool b) ∧ Bel w.heap.size w w') : Calls Tryz.prog f ar w (Ans p w) :=
  h.mono fun _ _ h => ⟨b, h.1, hb, h.2⟩
theorem ans_is {p : Prop} {b : Bool} {f : FuncId} {ar : Array Value} {w : World} (hb : b = true ↔ p) (h : Calls Tryz.prog f ar w (Ans p w)) : Calls Tryz.prog f ar w fun e w' => e = .returned (.bool b) ∧ Bel w.heap.size w w' :=
  h.mono fun e w' h => by
    obtain ⟨c, rfl, hc, hb'⟩ := h
    have e : c = b := by
      have := hc.trans hb.symm
      cases c <;> cases b <;> simp_all
    exact ⟨by rw [e], hb'⟩
theorem ans_b (p : Prop) : ∃ b : Bool, b = true ↔ p := ⟨@decide p (Classical.propDecidable p), by simp⟩
theorem ans_fn (P : Nat → Prop) : ∃ f : Nat → Bool, ∀ j, f j = true ↔ P j := ⟨fun j => @decide (P j) (Classical.propDecidable _), fun j => by simp⟩
theorem Kp.kp {K : Nat → Prop} {w y : World} (h : Kept [] w y) : Kp K K w y := ⟨h.1, fun b hb hl => ⟨hb, h.2 b hl (by simp)⟩⟩
theorem range_kept {w y : World} (h : Kept [] w y) {b o : Nat} {cs : List Value} (hb : b < w.heap.size) (hr : ∀ (j : Nat) u, cs[j]? = some u → w.cell? ⟨b, o + j, none⟩ = some u) : y.rangeAt b o cs :=
  fun j v hv => (World.cell?_of_block (h.2 b hb (by simp))).trans (hr j v hv)
theorem bel_kept {w y : World} (h : Bel w.heap.size w y) : Kept [] w y := ⟨h.size, fun b hb _ => h.block b hb⟩
theorem RowG.fn {α : Type} {K : Nat → Prop} {k : Nat} {R : List Value → α → Prop} {w : World} {v : Value} {l : List α} (h : RowG K k R w v l) :
    ∃ A c b off, ∃ f : Nat → List Value, v = .slice A l.length c ∧ (l.length ≤ c ∧ c ≤ 9223372036854775807) ∧ (0 < l.length → A = some ⟨b, off, none⟩) ∧ ∀ i x, l[i]? = some x → (f i).length = k ∧ (∀ y, Kept [] w y → y.rangeAt b (off + i * k) (f i)) ∧ R (f i) x := by
  obtain ⟨A, c, rfl, hc, h3⟩ := h
  rcases h3 with rfl | ⟨b, off, rfl, hK, hb, hq⟩
  · exact ⟨A, c, 0, 0, fun _ => [], rfl, hc, fun h => absurd h (by simp), fun i x h => by simp at h⟩
  · have key : ∀ i : Nat, ∃ cs : List Value, ∀ x, l[i]? = some x → cs.length = k ∧ (∀ y, Kept [] w y → y.rangeAt b (off + i * k) cs) ∧ R cs x := fun i => by
      cases hx : l[i]? with
      | none => exact ⟨[], fun x h => by cases h⟩
      | some x =>
        obtain ⟨cs, h1, h2, h3⟩ := hq i x hx
        exact ⟨cs, fun y hy => by cases hy; exact ⟨h1, fun y hy => range_kept hy hb h2, h3⟩⟩
    obtain ⟨f, hf⟩ := Classical.axiomOfChoice key
    exact ⟨_, c, b, off, f, rfl, hc, fun _ => rfl, hf⟩
theorem SegsG.fn {K : Nat → Prop} {R : List Value → ExprT → Prop} {w : World} {v : Value} {l : List SegT} (h : SegsG K R w v l) :
    ∃ A c b off, ∃ F : Nat → SgF, v = .slice A l.length c ∧ (l.length ≤ c ∧ c ≤ 9223372036854775807) ∧ (0 < l.length → A = some ⟨b, off, none⟩) ∧ SgOK (Kept [] w) b off l.length F ∧ ∀ i x, l[i]? = some x → (F i).d = x.deep ∧ (F i).n = x.sels.length ∧ ∀ j y, x.sels[j]? = some y → SelC K R w ((F i).s j) y := by
  obtain ⟨A, c, b, off, f, rfl, hc, hA, hf⟩ := RowG.fn h
  have key : ∀ i : Nat, ∃ X : SgF, ∀ x, l[i]? = some x → f i = [.bool X.d, .slice X.B X.n X.e] ∧ X.n ≤ 9223372036854775807 ∧ (0 < X.n → X.B = some ⟨X.u, X.v, none⟩) ∧ (X.d = x.deep ∧ X.n = x.sels.length) ∧ ∀ j y, x.sels[j]? = some y → (X.s j).length = 9 ∧ (∀ y, Kept [] w y → y.rangeAt X.u (X.v + j * 9) (X.s j)) ∧ SelC K R w (X.s j) y := fun i => by
    cases hx : l[i]? with
    | none => exact ⟨⟨false, none, 0, 0, 0, 0, fun _ => []⟩, fun x h => by cases h⟩
    | some x =>
      obtain ⟨-, -, sv, e, hr⟩ := hf i x hx
      obtain ⟨B, e', u, v, s, rfl, hc', hB, hs⟩ := RowG.fn hr
      exact ⟨⟨x.deep, B, x.sels.length, e', u, v, s⟩, fun y hy => by cases hy; exact ⟨e, by simp only; omega, hB, ⟨rfl, rfl⟩, hs⟩⟩
  obtain ⟨F, hF⟩ := Classical.axiomOfChoice key
  have at_ : ∀ i, i < l.length → ∃ x, l[i]? = some x := fun i hi => ⟨_, List.getElem?_eq_getElem hi⟩
  have sat : ∀ (x : SegT) j, j < x.sels.length → ∃ y, x.sels[j]? = some y := fun x j hj => ⟨_, List.getElem?_eq_getElem hj⟩
  refine ⟨A, c, b, off, F, rfl, hc, hA, ⟨fun i hi y hy => ?_, fun i hi => ?_, fun i hi => ?_, fun i j hi hj => ?_, fun i j hi hj y hy => ?_⟩, fun i x hx => ⟨(hF i x hx).2.2.2.1.1, (hF i x hx).2.2.2.1.2, fun j y hy => ((hF i x hx).2.2.2.2 j y hy).2.2⟩⟩
  · obtain ⟨x, hx⟩ := at_ i hi
    rw [← (hF i x hx).1]
    exact (hf i x hx).2.1 y hy
  · obtain ⟨x, hx⟩ := at_ i hi
    exact (hF i x hx).2.1
  · obtain ⟨x, hx⟩ := at_ i hi
    exact (hF i x hx).2.2.1
  · obtain ⟨x, hx⟩ := at_ i hi
    rw [(hF i x hx).2.2.2.1.2] at hj
    obtain ⟨z, hz⟩ := sat x j hj
    exact ((hF i x hx).2.2.2.2 j z hz).1
  · obtain ⟨x, hx⟩ := at_ i hi
    rw [(hF i x hx).2.2.2.1.2] at hj
    obtain ⟨z, hz⟩ := sat x j hj
    exact ((hF i x hx).2.2.2.2 j z hz).2.1 y hy

theorem ssel_ans {n : Nat} (hE : SEq n) {K K' : Nat → Prop} {w : World} {x y : SelT} {cs cs' : List Value} (h1 : SelC K (ExR K n w) w cs x) (h2 : SelC K' (ExR K' n w) w cs' y) :
    Calls Tryz.prog 36 #[.agg cs.toArray, .agg cs'.toArray] w (Ans (x = y) w) := by
  obtain ⟨pv, rfl, hp⟩ := h1
  obtain ⟨pv', rfl, hp'⟩ := h2
  obtain ⟨k1, n1, i1, f1, t1, s1, a1, b1, e1⟩ := x
  obtain ⟨k2, n2, i2, f2, t2, s2, a2, b2, e2⟩ := y
  by_cases h : k1 = k2; rotate_left
  · exact no_ans (fun e => h (by cases e; rfl)) (ssel_no k1 i1 f1 t1 s1 k2 i2 f2 t2 s2 n1 n2 a1 b1 a2 b2 pv pv' w (.inl h))
  subst h
  by_cases h : n1 = n2; rotate_left
  · exact no_ans (fun e => h (by cases e; rfl)) (ssel_no k1 i1 f1 t1 s1 k1 i2 f2 t2 s2 n1 n2 a1 b1 a2 b2 pv pv' w (.inr (.inl ⟨rfl, h⟩)))
  subst h
  by_cases h : i1 = i2; rotate_left
  · exact no_ans (fun e => h (by cases e; rfl)) (ssel_no k1 i1 f1 t1 s1 k1 i2 f2 t2 s2 n1 n1 a1 b1 a2 b2 pv pv' w (.inr (.inr (.inl ⟨rfl, rfl, h⟩))))
  subst h
  by_cases h : f1 = f2; rotate_left
  · exact no_ans (fun e => h (by cases e; rfl)) (ssel_no k1 i1 f1 t1 s1 k1 i1 f2 t2 s2 n1 n1 a1 b1 a2 b2 pv pv' w (.inr (.inr (.inr (.inl ⟨rfl, rfl, rfl, h⟩)))))
  subst h
  by_cases h : t1 = t2; rotate_left
  · exact no_ans (fun e => h (by cases e; rfl)) (ssel_no k1 i1 f1 t1 s1 k1 i1 f1 t2 s2 n1 n1 a1 b1 a2 b2 pv pv' w (.inr (.inr (.inr (.inr (.inl ⟨rfl, rfl, rfl, rfl, h⟩))))))
  subst h
  by_cases h : s1 = s2; rotate_left
  · exact no_ans (fun e => h (by cases e; rfl)) (ssel_no k1 i1 f1 t1 s1 k1 i1 f1 t1 s2 n1 n1 a1 b1 a2 b2 pv pv' w (.inr (.inr (.inr (.inr (.inr (.inl ⟨rfl, rfl, rfl, rfl, rfl, h⟩)))))))
  subst h
  by_cases h : a1 = a2; rotate_left
  · exact no_ans (fun e => h (by cases e; rfl)) (ssel_no k1 i1 f1 t1 s1 k1 i1 f1 t1 s1 n1 n1 a1 b1 a2 b2 pv pv' w (.inr (.inr (.inr (.inr (.inr (.inr (.inl ⟨rfl, rfl, rfl, rfl, rfl, rfl, h⟩))))))))
  subst h
  by_cases h : b1 = b2; rotate_left
  · exact no_ans (fun e => h (by cases e; rfl)) (ssel_no k1 i1 f1 t1 s1 k1 i1 f1 t1 s1 n1 n1 a1 b1 a1 b2 pv pv' w (.inr (.inr (.inr (.inr (.inr (.inr (.inr ⟨rfl, rfl, rfl, rfl, rfl, rfl, rfl, h⟩))))))))
  subst h
  cases e1 with
  | none =>
    obtain rfl : pv = .pointer none := hp
    cases e2 with
    | none =>
      obtain rfl : pv' = .pointer none := hp'
      exact yes_ans rfl (ssel_nn k1 i1 f1 t1 s1 n1 a1 b1 w)
    | some e2 =>
      obtain ⟨b, off, cs, rfl, -⟩ := hp'
      exact no_ans (fun e => by cases e) (ssel_ns k1 i1 f1 t1 s1 n1 a1 b1 b off w)
  | some e1 =>
    obtain ⟨b, off, cs, rfl, hK, hb, hl, hc, hr⟩ := hp
    cases e2 with
    | none =>
      obtain rfl : pv' = .pointer none := hp'
      exact no_ans (fun e => by cases e) (ssel_sn k1 i1 f1 t1 s1 n1 a1 b1 b off w)
    | some e2 =>
      obtain ⟨b', off', cs', rfl, hK', hb', hl', hc', hr'⟩ := hp'
      have hq : ∀ y, Kept [] w y → Calls Tryz.prog 58 #[.agg cs.toArray, .agg cs'.toArray] y (Ans (e1 = e2) y) := fun y hy =>
        hE K K' y e1 e2 cs cs' (ExR.keep (Kp.kp hy) _ _ (Nat.le_refl _) _ _ hr) (ExR.keep (Kp.kp hy) _ _ (Nat.le_refl _) _ _ hr')
      by_cases h : e1 = e2
      · exact yes_ans (by rw [h]) (ssel_true k1 i1 f1 t1 s1 n1 a1 b1 b off b' off' cs cs' w (Kept [] w) (fun _ h => h) (fun y hy => range_kept hy hb hc) (fun y hy => range_kept hy hb' hc') hl hl' fun y hy => ans_is (by simp [h]) (hq y hy))
      · exact no_ans (fun e => h (by cases e; rfl)) (ssel_false k1 i1 f1 t1 s1 n1 a1 b1 b off b' off' cs cs' w (Kept [] w) (fun _ h => h) (fun y hy => range_kept hy hb hc) (fun y hy => range_kept hy hb' hc') hl hl' fun y hy => ans_is (by simp [h]) (hq y hy))
theorem same_ans {n : Nat} (hE : SEq n) {K K' : Nat → Prop} {w : World} {p q : PathT} {v v' : Value} (h1 : SegsG K (ExR K n w) w v p.segs) (h2 : SegsG K' (ExR K' n w) w v' q.segs) :
    Calls Tryz.prog 19 #[.agg #[.bool p.abs, v], .agg #[.bool q.abs, v']] w (Ans (p = q) w) := by
  obtain ⟨A1, c1, b1, o1, F1, rfl, hc1, hA1, hO1, hF1⟩ := SegsG.fn h1
  obtain ⟨A2, c2, b2, o2, F2, rfl, hc2, hA2, hO2, hF2⟩ := SegsG.fn h2
  obtain ⟨pa, ps⟩ := p
  obtain ⟨qa, qs⟩ := q
  simp only at *
  by_cases h : pa = qa; rotate_left
  · exact no_ans (fun e => h (by cases e; rfl)) (same_no pa qa A1 A2 ps.length qs.length c1 c2 w (.inl h))
  subst h
  by_cases hl : ps.length = qs.length; rotate_left
  · exact no_ans (fun e => hl (by cases e; rfl)) (same_no pa pa A1 A2 ps.length qs.length c1 c2 w (.inr ⟨rfl, by omega⟩))
  rw [← hl] at hA2 hO2 ⊢
  obtain ⟨b, hb⟩ := ans_b ((⟨pa, ps⟩ : PathT) = ⟨pa, qs⟩)
  have key : ∀ i : Nat, ∃ f : Nat → Bool, ∀ j, f j = true ↔ (∀ x y a b, ps[i]? = some x → qs[i]? = some y → x.sels[j]? = some a → y.sels[j]? = some b → a = b) := fun i => ans_fn _
  obtain ⟨ans, hans⟩ := Classical.axiomOfChoice key
  have at_ : ∀ i, i < ps.length → ∃ x y, ps[i]? = some x ∧ qs[i]? = some y := fun i hi => ⟨_, _, List.getElem?_eq_getElem hi, List.getElem?_eq_getElem (by rw [← hl]; exact hi)⟩
  have sat : ∀ (x : SegT) j, j < x.sels.length → ∃ y, x.sels[j]? = some y := fun x j hj => ⟨_, List.getElem?_eq_getElem hj⟩
  have hb2 : b = true ↔ ∀ i, i < ps.length → (F1 i).d = (F2 i).d ∧ (F1 i).n = (F2 i).n ∧ ∀ j, j < (F1 i).n → ans i j = true := by
    rw [hb]
    constructor
    · intro e i hi
      obtain rfl : ps = qs := by cases e; rfl
      obtain ⟨x, y, hx, hy⟩ := at_ i hi
      obtain rfl : x = y := by rw [hx] at hy; cases hy; rfl
      obtain ⟨a1, a2, -⟩ := hF1 i x hx
      obtain ⟨a3, a4, -⟩ := hF2 i x hx
      refine ⟨by rw [a1, a3], by rw [a2, a4], fun j _ => (hans i j).2 fun x y a b e1 e2 e3 e4 => ?_⟩
      rw [e1] at e2; cases e2
      rw [e3] at e4; cases e4; rfl
    · intro h
      have : ps = qs := by
        refine List.ext_getElem? fun i => ?_
        rcases Nat.lt_or_ge i ps.length with hi | hi
        · obtain ⟨x, y, hx, hy⟩ := at_ i hi
          obtain ⟨a1, a2, -⟩ := hF1 i x hx
          obtain ⟨a3, a4, -⟩ := hF2 i y hy
          obtain ⟨k1, k2, k3⟩ := h i hi
          rw [a1, a3] at k1
          rw [a2, a4] at k2
          rw [a2] at k3
          rw [hx, hy]
          obtain ⟨xd, xs⟩ := x
          obtain ⟨yd, ys⟩ := y
          simp only at k1 k2 k3
          obtain rfl := k1
          have : xs = ys := by
            refine List.ext_getElem? fun j => ?_
            rcases Nat.lt_or_ge j xs.length with hj | hj
            · have e1 : xs[j]? = some xs[j] := List.getElem?_eq_getElem hj
              have e2 : ys[j]? = some (ys[j]'(by omega)) := List.getElem?_eq_getElem (by omega)
              rw [e1, e2, (hans i j).1 (k3 j hj) _ _ _ _ hx hy e1 e2]
            · rw [List.getElem?_eq_none hj, List.getElem?_eq_none (by omega)]
          rw [this]
        · rw [List.getElem?_eq_none hi, List.getElem?_eq_none (by omega)]
      rw [this]
  refine is_ans hb (same_all pa A1 A2 ps.length c1 c2 w (Kept [] w) (fun _ h => h) b1 o1 b2 o2 (fun h => ⟨hA1 h, hA2 h⟩) (by omega) F1 F2 hO1 hO2 ans (fun i j hi hj hj2 y hy => ?_) b hb2)
  obtain ⟨x, z, hx, hz⟩ := at_ i hi
  obtain ⟨-, a2, a5⟩ := hF1 i x hx
  obtain ⟨-, a4, a6⟩ := hF2 i z hz
  obtain ⟨s, hs⟩ := sat x j (by rw [← a2]; exact hj)
  obtain ⟨t, ht⟩ := sat z j (by rw [← a4]; exact hj2)
  refine ans_is (p := s = t) ((hans i j).trans ⟨fun h => h x z s t hx hz hs ht, fun h x' y' a b e1 e2 e3 e4 => ?_⟩) (ssel_ans hE ((a5 j s hs).keep (Kp.kp hy) fun _ _ h => ExR.keep (Kp.kp hy) _ _ (Nat.le_refl _) _ _ h) ((a6 j t ht).keep (Kp.kp hy) fun _ _ h => ExR.keep (Kp.kp hy) _ _ (Nat.le_refl _) _ _ h))
  rw [hx] at e1; cases e1
  rw [hz] at e2; cases e2
  rw [hs] at e3; cases e3
  rw [ht] at e4; cases e4
  exact h
theorem SegsG.kept {K : Nat → Prop} {n : Nat} {w y : World} {v : Value} {l : List SegT} (h : SegsG K (ExR K n w) w v l) (hy : Kept [] w y) : SegsG K (ExR K n y) y v l :=
  SegsG.keep h (Kp.kp hy) fun _ _ h => ExR.keep (Kp.kp hy) _ _ (Nat.le_refl _) _ _ h
theorem sside_ans {n : Nat} (hE : SEq n) {K K' : Nat → Prop} {w : World} {x y : SideT} {v v' : Value} (h1 : SegsG K (ExR K n w) w v x.p.segs) (h2 : SegsG K' (ExR K' n w) w v' y.p.segs) :
    Calls Tryz.prog 87 #[.agg #[.bool x.lit, .int .i64 x.kind, .int .i64 x.n, .string (bs x.s), .bool x.p.abs, v], .agg #[.bool y.lit, .int .i64 y.kind, .int .i64 y.n, .string (bs y.s), .bool y.p.abs, v']] w (Ans (x = y) w) := by
  obtain ⟨l1, k1, n1, s1, p⟩ := x
  obtain ⟨l2, k2, n2, s2, q⟩ := y
  simp only at *
  by_cases h : l1 = l2; rotate_left
  · exact no_ans (fun e => h (by cases e; rfl)) (sside_no l1 l2 p.abs q.abs k1 k2 n1 n2 s1 s2 v v' w (.inl h))
  subst h
  by_cases h : k1 = k2; rotate_left
  · exact no_ans (fun e => h (by cases e; rfl)) (sside_no l1 l1 p.abs q.abs k1 k2 n1 n2 s1 s2 v v' w (.inr (.inl ⟨rfl, h⟩)))
  subst h
  by_cases h : n1 = n2; rotate_left
  · exact no_ans (fun e => h (by cases e; rfl)) (sside_no l1 l1 p.abs q.abs k1 k1 n1 n2 s1 s2 v v' w (.inr (.inr (.inl ⟨rfl, rfl, h⟩))))
  subst h
  by_cases h : s1 = s2; rotate_left
  · exact no_ans (fun e => h (by cases e; rfl)) (sside_no l1 l1 p.abs q.abs k1 k1 n1 n1 s1 s2 v v' w (.inr (.inr (.inr ⟨rfl, rfl, rfl, h⟩))))
  subst h
  obtain ⟨b, hb⟩ := ans_b (p = q)
  refine is_ans (b := b) (hb.trans ⟨fun h => by rw [h], fun h => by cases h; rfl⟩) (sside_c l1 p.abs q.abs k1 n1 s1 v v' b w fun y hy => ans_is hb (same_ans hE (SegsG.kept h1 (bel_kept hy)) (SegsG.kept h2 (bel_kept hy))))
theorem sEq_all : ∀ n, SEq n
  | 0 => fun _ _ _ _ _ _ _ h _ => h.elim
  | n + 1 => fun K K' w x y cs cs' h1 h2 => by
    have hE := sEq_all n
    obtain ⟨kv1, qv1, lv1, rv1, rfl, hk1, hq1, hl1, hr1⟩ := h1
    obtain ⟨kv2, qv2, lv2, rv2, rfl, hk2, hq2, hl2, hr2⟩ := h2
    obtain ⟨A1, c1, b1, o1, f1, rfl, hc1, hA1, hf1⟩ := RowG.fn hk1
    obtain ⟨A2, c2, b2, o2, f2, rfl, hc2, hA2, hf2⟩ := RowG.fn hk2
    have HQ := fun y (hy : Bel w.heap.size w y) => same_ans hE (SegsG.kept hq1 (bel_kept hy)) (SegsG.kept hq2 (bel_kept hy))
    have HL := fun y (hy : Bel w.heap.size w y) => sside_ans hE (SegsG.kept hl1 (bel_kept hy)) (SegsG.kept hl2 (bel_kept hy))
    have HR := fun y (hy : Bel w.heap.size w y) => sside_ans hE (SegsG.kept hr1 (bel_kept hy)) (SegsG.kept hr2 (bel_kept hy))
    clear hk1 hk2 hq1 hq2 hl1 hl2 hr1 hr2
    obtain ⟨k1, ks1, q1, op1, L1, R1⟩ := x
    obtain ⟨k2, ks2, q2, op2, L2, R2⟩ := y
    unfold exL
    simp only at *
    by_cases h : k1 = k2; rotate_left
    · exact no_ans (fun e => h (by cases e; rfl)) (sexpr_no _ _ _ _ _ _ _ _ _ _ _ _ _ _ _ _ _ _ _ _ _ _ _ _ _ _ _ _ _ _ _ _ _ _ _ _ _ _ _ (.inl h))
    subst h
    by_cases h : op1 = op2; rotate_left
    · exact no_ans (fun e => h (by cases e; rfl)) (sexpr_no _ _ _ _ _ _ _ _ _ _ _ _ _ _ _ _ _ _ _ _ _ _ _ _ _ _ _ _ _ _ _ _ _ _ _ _ _ _ _ (.inr (.inl ⟨rfl, h⟩)))
    subst h
    by_cases hl : ks1.length = ks2.length; rotate_left
    · exact no_ans (fun e => hl (by cases e; rfl)) (sexpr_no _ _ _ _ _ _ _ _ _ _ _ _ _ _ _ _ _ _ _ _ _ _ _ _ _ _ _ _ _ _ _ _ _ _ _ _ _ _ _ (.inr (.inr ⟨rfl, rfl, fun e => hl (by omega)⟩)))
    rw [← hl] at hA2 ⊢
    obtain ⟨bq, hbq⟩ := ans_b (q1 = q2)
    obtain ⟨bl, hbl⟩ := ans_b (L1 = L2)
    obtain ⟨br, hbr⟩ := ans_b (R1 = R2)
    have HQ := fun y hy => ans_is hbq (HQ y hy)
    have HL := fun y hy => ans_is hbl (HL y hy)
    have HR := fun y hy => ans_is hbr (HR y hy)
    by_cases h : bq = true ∧ bl = true ∧ br = true; rotate_left
    · refine no_ans (fun e => h ?_) (sexpr_c _ _ _ _ _ _ _ _ _ _ _ _ _ _ _ _ _ _ _ _ _ _ _ _ _ _ _ _ _ _ _ _ _ _ _ _ _ _ _ HQ HL HR ?_)
      · cases e; exact ⟨hbq.2 rfl, hbl.2 rfl, hbr.2 rfl⟩
      · cases bq <;> cases bl <;> cases br <;> simp at h ⊢
    obtain ⟨rfl, rfl, rfl⟩ := h
    obtain rfl := hbq.1 rfl
    obtain rfl := hbl.1 rfl
    obtain rfl := hbr.1 rfl
    obtain ⟨ans, hans⟩ := ans_fn fun j => ∀ a b, ks1[j]? = some a → ks2[j]? = some b → a = b
    have at_ : ∀ i, i < ks1.length → ∃ x y, ks1[i]? = some x ∧ ks2[i]? = some y := fun i hi => ⟨_, _, List.getElem?_eq_getElem hi, List.getElem?_eq_getElem (by rw [← hl]; exact hi)⟩
    obtain ⟨b, hb⟩ := ans_b (ks1 = ks2)
    have hb2 : b = true ↔ ∀ j, j < ks1.length → ans j = true := by
      rw [hb]
      constructor
      · rintro rfl j hj
        refine (hans j).2 fun a b h1 h2 => ?_
        rw [h1] at h2; cases h2; rfl
      · intro h
        refine List.ext_getElem? fun j => ?_
        rcases Nat.lt_or_ge j ks1.length with hj | hj
        · obtain ⟨x, y, hx, hy⟩ := at_ j hj
          rw [hx, hy, (hans j).1 (h j hj) x y hx hy]
        · rw [List.getElem?_eq_none hj, List.getElem?_eq_none (by omega)]
    refine is_ans (b := b) (hb.trans ⟨fun h => by rw [h], fun h => by cases h; rfl⟩) (sexpr_all _ _ _ _ _ _ _ _ _ _ _ _ _ _ _ _ _ _ _ _ _ _ _ _ _ _ _ _ _ _ _ _ _ _ _ _ HQ HL HR (Kept [] w) (fun _ h => h) b1 o1 b2 o2 (fun h => ⟨hA1 h, hA2 h⟩) (by omega) f1 f2 ans b hb2 (fun j hj => ?_) (fun j hj => ?_) (fun j hj => ?_) (fun j hj => ?_) (fun j hj y hy => ?_))
    all_goals obtain ⟨x, z, hx, hz⟩ := at_ j hj
    · exact (hf1 j x hx).1
    · exact (hf2 j z hz).1
    · exact (hf1 j x hx).2.1
    · exact (hf2 j z hz).2.1
    · refine ans_is (p := x = z) ((hans j).trans ⟨fun h => h x z hx hz, fun h a b e1 e2 => ?_⟩) (hE K K' y x z _ _ (ExR.keep (Kp.kp hy) _ _ (Nat.le_refl _) _ _ (hf1 j x hx).2.2) (ExR.keep (Kp.kp hy) _ _ (Nat.le_refl _) _ _ (hf2 j z hz).2.2))
      rw [hx] at e1; cases e1
      rw [hz] at e2; cases e2
      exact h
/-- Same tells whether two trees are one. -/
theorem same_tells {K K' : Nat → Prop} {m m' : Nat} {w : World} (p q : PathT) (v v' : Value) (h1 : SegsG K (ExR K m w) w v p.segs) (h2 : SegsG K' (ExR K' m' w) w v' q.segs) :
    Calls Tryz.prog 19 #[.agg #[.bool p.abs, v], .agg #[.bool q.abs, v']] w (Ans (p = q) w) :=
  same_ans (sEq_all (max m m')) (SegsG.keep h1 (Kp.refl _ _) fun _ _ h => ExR.keep (Kp.refl _ _) _ _ (Nat.le_max_left _ _) _ _ h) (SegsG.keep h2 (Kp.refl _ _) fun _ _ h => ExR.keep (Kp.refl _ _) _ _ (Nat.le_max_right _ _) _ _ h)

end Go.Proofs.YtpcbcodmocmilaaGreatDoor
