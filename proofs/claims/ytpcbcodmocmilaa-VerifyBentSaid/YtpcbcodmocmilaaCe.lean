/- A query's code is sound; bent, it is not (plain; no word of a dump). -/
import Derived.Test.YtpcbcodmocmilaaG41
namespace Go.Proofs.Ytpcbcodmocmilaa

section
variable {S : List UInt8 → Prop} {c : CodeD} {p : Int} {at0 last : Nat}
theorem meet_ok {hs : List Int} {i : Nat} {h : Int} (h1 : hs[i]? = some (-1) ∨ hs[i]? = some h) : meetL hs i h = some (hs.set i h) := by
  unfold meetL
  rw [if_pos]
  rcases h1 with e | e
  · left; rw [List.getD_eq_getElem?_getD, e]; rfl
  · right; rw [List.getD_eq_getElem?_getD, e]; rfl
theorem run1 {x : InsD} {i : Nat} {hs : List Int} {h d : Int} (hx : insI c x p ((at0 + i : Nat) : Int) (last : Nat) h = some d) (hd : ¬ d < 0) (hi : hs[i]? = some h) (h1 : hs[i + 1]? = some (-1) ∨ hs[i + 1]? = some (h + d)) (rest : List InsD) :
    runL c p at0 last (x :: rest) (at0 + i) hs = runL c p at0 last rest (at0 + (i + 1)) (hs.set (i + 1) (h + d)) := by
  rw [runL]
  unfold stepL
  rw [show at0 + i - at0 = i by omega, List.getD_eq_getElem?_getD, hi]
  simp only [Option.getD_some]
  rw [hx]
  simp only
  rw [if_neg hd, Option.bind_some, show at0 + i + 1 - at0 = i + 1 by omega, meet_ok h1, Option.bind_some]
  rfl
theorem runJ {op : Int} (hop : op = 3 ∨ op = 4) {i iE : Nat} {hs : List Int} {h : Int} (hh : 0 ≤ h) (hlt : i + 1 < iE) (hle : at0 + iE ≤ last) (hi : hs[i]? = some (h + 1)) (hE : hs[iE]? = some (-1) ∨ hs[iE]? = some (h + 1)) (h1 : hs[i + 1]? = some (-1)) (rest : List InsD) :
    runL c p at0 last (⟨op, 0, 0, 0, 0, bs [], ((at0 + iE : Nat) : Int)⟩ :: rest) (at0 + i) hs = runL c p at0 last rest (at0 + (i + 1)) ((hs.set iE (h + 1)).set (i + 1) h) := by
  rw [runL]
  unfold stepL
  have hx : insI c ⟨op, 0, 0, 0, 0, bs [], ((at0 + iE : Nat) : Int)⟩ p ((at0 + i : Nat) : Int) (last : Nat) (h + 1) = some (-1) := by
    unfold insI
    simp only
    rw [if_neg (by omega), if_neg (by omega), if_pos hop, if_pos (by omega)]
  rw [show at0 + i - at0 = i by omega, List.getD_eq_getElem?_getD, hi]
  simp only [Option.getD_some]
  rw [hx]
  simp only
  rw [if_pos (by omega), Int.toNat_natCast, show at0 + iE - at0 = iE by omega, meet_ok hE, Option.bind_some, show at0 + i + 1 - at0 = i + 1 by omega, show h + 1 + -1 = h by omega,
    meet_ok (by left; rw [List.getElem?_set_ne (by omega)]; exact h1), Option.bind_some]
  rfl
/-- Instructions that lay one value more upon the stack. -/
def Runs (c : CodeD) (p : Int) (at0 last : Nat) (l : List InsD) (n i : Nat) : Prop :=
  ∀ (hs : List Int) (h : Int) (rest : List InsD), 0 ≤ h → hs[i]? = some h → (∀ j, i < j → j < i + n → hs[j]? = some (-1)) → (hs[i + n]? = some (-1) ∨ hs[i + n]? = some (h + 1)) →
    ∃ hs' : List Int, runL c p at0 last (l ++ rest) (at0 + i) hs = runL c p at0 last rest (at0 + (i + n)) hs' ∧ hs'[i + n]? = some (h + 1) ∧ ∀ j, i + n < j → hs'[j]? = hs[j]?
theorem runs_one {x : InsD} {i : Nat} (hx : ∀ h, 0 ≤ h → insI c x p ((at0 + i : Nat) : Int) (last : Nat) h = some 1) : Runs c p at0 last [x] 1 i := by
  intro hs h rest hh hi _ he
  have hlt : i + 1 < hs.length := by
    rcases he with e | e <;> exact (List.getElem?_eq_some_iff.1 e).1
  exact ⟨_, run1 (hx h hh) (by omega) hi he rest, by rw [List.getElem?_set_self hlt], fun j hj => List.getElem?_set_ne (by omega)⟩
theorem insK_run {I : Nat → Nat → ExprT → List InsD} {L : ExprT → Nat} {W : ExprT → List PathT} {Wl : List PathT} {op : Int} (hop : op = 3 ∨ op = 4) {bm E : Nat} : ∀ (l : List ExprT) (i b : Nat), l ≠ [] → (∀ k ∈ l, 1 ≤ L k ∧ ∀ i b, at0 + (i + L k) ≤ last → bm ≤ b → At (W k) Wl b → Runs c p at0 last (I (at0 + i) b k) (L k) i) →
    E = at0 + (i + lenK L l) → E ≤ last → bm ≤ b → At (l.flatMap W) Wl b → Runs c p at0 last (insK I L (fun k => (W k).length) op E (at0 + i) b l) (lenK L l) i
  | [], _, _, h0, _, _, _, _, _ => absurd rfl h0
  | [x], i, b, _, hl, hE, h1, h2, h3 => by
    have := (hl x (by simp)).2 i b (by rw [lenK] at hE; simp at hE; omega) h2 (by simpa using h3)
    rw [insK, lenK]
    simpa using this
  | x :: z :: r, i, b, _, hl, hE, h1, h2, h3 => by
    have hE' := hE
    rw [lenK] at hE'
    simp only [List.isEmpty_cons, Bool.false_eq_true, if_false] at hE'
    obtain ⟨z1, _⟩ := hl z (by simp)
    have hpos : 1 ≤ lenK L (z :: r) := by rw [lenK]; omega
    rw [List.flatMap_cons] at h3
    have kx := (hl x (by simp)).2 i b (by omega) h2 (h3.sub (At.pre _ _))
    have kr := insK_run hop (E := E) (z :: r) (i + L x + 1) (b + (W x).length) (by simp) (fun k hk => hl k (by simp [hk])) (by omega) h1 (by omega) (h3.sub (At.suf _ _ rfl))
    rw [insK, lenK]
    simp only [List.isEmpty_cons, Bool.false_eq_true, if_false]
    intro hs h rest hh hi hm he
    obtain ⟨hs1, e1, e2, e3⟩ := kx hs h (⟨op, 0, 0, 0, 0, bs [], (E : Nat)⟩ :: (insK I L (fun k => (W k).length) op E (at0 + i + L x + 1) (b + (W x).length) (z :: r) ++ rest)) hh hi (fun j h1 h2 => hm j h1 (by omega)) (.inl (hm _ (by have := (hl x (by simp)).1; omega) (by omega)))
    rw [List.append_assoc, List.cons_append, e1]
    have hn : hs1[i + L x + 1]? = some (-1) := (e3 _ (by omega)).trans (hm _ (by omega) (by omega))
    have hE1 : hs1[i + (L x + (lenK L (z :: r) + 1))]? = some (-1) ∨ hs1[i + (L x + (lenK L (z :: r) + 1))]? = some (h + 1) := by rw [e3 _ (by omega)]; exact he
    have hlt : i + (L x + (lenK L (z :: r) + 1)) < hs1.length := by
      rcases hE1 with e | e <;> exact (List.getElem?_eq_some_iff.1 e).1
    rw [show E = at0 + (i + (L x + (lenK L (z :: r) + 1))) by omega, runJ hop hh (by omega) (by omega) e2 hE1 hn]
    rw [show at0 + (i + (L x + (lenK L (z :: r) + 1))) = E by omega, show at0 + i + L x + 1 = at0 + (i + L x + 1) by omega]
    obtain ⟨hs3, f1, f2, f3⟩ := kr ((hs1.set (i + (L x + (lenK L (z :: r) + 1))) (h + 1)).set (i + L x + 1) h) h rest hh
      (by rw [List.getElem?_set_self (by rw [List.length_set]; omega)])
      (fun j h1 h2 => by rw [List.getElem?_set_ne (by omega), List.getElem?_set_ne (by omega), e3 j (by omega)]; exact hm j (by omega) (by omega))
      (.inr (by rw [List.getElem?_set_ne (by omega), show i + L x + 1 + lenK L (z :: r) = i + (L x + (lenK L (z :: r) + 1)) by omega, List.getElem?_set_self hlt]))
    refine ⟨hs3, ?_, ?_, fun j hj => ?_⟩
    · rw [f1, show at0 + (i + L x + 1 + lenK L (z :: r)) = E by omega]
    · rw [show i + (L x + (lenK L (z :: r) + 1)) = i + L x + 1 + lenK L (z :: r) by omega]; exact f2
    · rw [f3 j (by omega), List.getElem?_set_ne (by omega), List.getElem?_set_ne (by omega)]
      exact e3 j (by omega)
/-- The paths from a number on lie behind, and are as they are. -/
def WOK (c : CodeD) (p : Int) (Wl : List PathT) (bm : Nat) : Prop := ∀ m q, bm ≤ m → Wl[m]? = some q → p < (m : Int) ∧ (m : Int) < (c.ps.length : Int) ∧ (singB q = true → singleOK c (m : Int) = true)
theorem insN_run {Wl : List PathT} {bm : Nat} (hW : WOK c p Wl bm) : ∀ (n : Nat) (x : ExprT), WfN S n x → ∀ i b, at0 + (i + lenN n x) ≤ last → bm ≤ b → At (waitN n x) Wl b → Runs c p at0 last (insN n (at0 + i) b x) (lenN n x) i
  | 0, _, h => h.elim
  | n + 1, x, h => fun i b hle hb hw => by
    have h' : WfX S (WfN S n) x := h
    have ih : ∀ k, WfN S n k → 1 ≤ lenN n k ∧ ∀ i b, at0 + (i + lenN n k) ≤ last → bm ≤ b → At (waitN n k) Wl b → Runs c p at0 last (insN n (at0 + i) b k) (lenN n k) i := fun k hk => ⟨lenN_pos n k hk, fun i b => insN_run hW n k hk i b⟩
    rw [lenN] at hle ⊢
    rw [waitN] at hw
    rw [insN]
    cases h' with
    | or l a1 b1 =>
      simp [mkE] at hw hle ⊢
      exact insK_run (.inl rfl) l i b (two_ne a1) (fun k hk => ih k (b1 k hk)) (by omega) (by omega) hb hw
    | and l a1 b1 =>
      simp [mkE] at hw hle ⊢
      exact insK_run (.inr rfl) l i b (two_ne a1) (fun k hk => ih k (b1 k hk)) (by omega) (by omega) hb hw
    | not k a1 =>
      simp [mkE, insK, lenK] at hw hle ⊢
      intro hs h rest hh hi hm he
      have hp := (ih k a1).1
      obtain ⟨hs1, e1, e2, e3⟩ := (ih k a1).2 i b (by omega) hb hw hs h (opD 2 :: rest) hh hi (fun j h1 h2 => hm j h1 (by omega)) (.inl (hm _ (by omega) (by omega)))
      rw [List.append_assoc, List.singleton_append, e1]
      have he1 : hs1[i + lenN n k + 1]? = some (-1) ∨ hs1[i + lenN n k + 1]? = some (h + 1 + 0) := by rw [e3 _ (by omega), Int.add_zero]; exact he
      have hlt : i + lenN n k + 1 < hs1.length := by
        rcases he1 with e | e <;> exact (List.getElem?_eq_some_iff.1 e).1
      rw [run1 (d := 0) (h := h + 1) (by unfold insI opD; simp; omega) (by omega) e2 he1 rest]
      exact ⟨_, rfl, by rw [show i + (lenN n k + 1) = i + lenN n k + 1 by omega, List.getElem?_set_self hlt, Int.add_zero], fun j hj => by rw [List.getElem?_set_ne (by omega)]; exact e3 j (by omega)⟩
    | test q a1 =>
      simp [tstE] at hw hle ⊢
      have hq : Wl[b]? = some q := by simpa using hw.get (j := 0) (by simp)
      obtain ⟨w1, w2, w3⟩ := hW b q hb hq
      refine runs_one fun h hh => ?_
      unfold insI
      simp only
      rw [if_neg (by omega), if_pos (by simp), if_pos ⟨w1, w2, fun e => by cases e⟩]
    | cmp op x1 x2 a1 a2 a3 a4 a5 a6 =>
      simp at hw hle ⊢
      have hq : Wl[b]? = some (cmpP ⟨4, [], path0, op, x1, x2⟩) := by simpa using hw.get (j := 0) (by simp)
      obtain ⟨w1, w2, w3⟩ := hW b _ hb hq
      have w4 := w3 a6
      refine runs_one fun h hh => ?_
      unfold insI cmpD
      simp only
      split
      · simp only
        rw [if_neg (by omega), if_pos (by simp), if_pos ⟨w1, w2, fun _ => ⟨(turnS_bd a1 a2).1, (turnS_bd a1 a2).2, (side_kind a3).1, (side_kind a3).2, w4⟩⟩]
      · simp only
        rw [if_neg (by omega), if_pos (by simp), if_pos ⟨w1, w2, fun _ => ⟨a1, a2, (side_kind a4).1, (side_kind a4).2, w4⟩⟩]
theorem end_at {n : Nat} {e : ExprT} (he : WfN S n e) (a b : Nat) (r : List InsD) : (insN n a b e ++ opD 5 :: r).findIdx? (fun x => x.op == 5) = some (lenN n e) := by
  have hl := insN_len n e he a b
  rw [List.findIdx?_eq_some_iff_getElem]
  refine ⟨by rw [List.length_append, hl]; simp, ?_, fun j hj => ?_⟩
  · rw [List.getElem_append_right (by omega)]; simp [hl, opD]
  · rw [List.getElem_append_left (by omega)]
    have := (insN_ok n e he a b j _ (List.getElem?_eq_getElem (by omega))).op
    simp; omega
/-- A filter is as it should be. -/
theorem flt_ok {Wl : List PathT} {bm n : Nat} (hW : WOK c p Wl bm) {y : SelD} {e : ExprT} {a b : Nat} (F : Flt S n c.is Wl y e a b) (hb : bm ≤ b) : filterOK c p y.at_ = true := by
  obtain ⟨r, hr⟩ := F.ins.drop
  unfold filterOK
  rw [F.at_, if_neg (by omega), Int.toNat_natCast, hr, List.append_assoc, List.singleton_append, end_at F.wf]
  simp only
  have hl := insN_len n e F.wf a b
  rw [List.take_left' hl]
  have hp := lenN_pos n e F.wf
  obtain ⟨hs, e1, e2, _⟩ := insN_run (at0 := a) (last := a + lenN n e) hW n e F.wf 0 b (by omega) hb F.wait (0 :: List.replicate (lenN n e) (-1)) 0 [] (Int.le_refl _) rfl
    (fun j h1 h2 => by
      rw [show j = (j - 1) + 1 by omega, List.getElem?_cons_succ, List.getElem?_replicate, if_pos (by omega)])
    (.inl (by rw [show 0 + lenN n e = (lenN n e - 1) + 1 by omega, List.getElem?_cons_succ, List.getElem?_replicate, if_pos (by omega)]))
  rw [List.append_nil, Nat.add_zero, runL] at e1
  rw [e1]
  simp only
  rw [List.getD_eq_getElem?_getD, show lenN n e = 0 + lenN n e by omega, e2]
  rfl
end
section
variable {S : List UInt8 → Prop} {n : Nat} {c : CodeD} {Wl : List PathT}
theorem get_P {i : Nat} (x : PathD) (h : c.ps[i]? = some x) : getP c (i : Int) = some x := by unfold getP; rw [if_neg (by omega), Int.toNat_natCast]; exact h
theorem spot_path (G : Good S n c Wl) {i : Nat} {q : PathT} {g0 s0 a0 b0 : Nat} (h : Spot n c Wl i q g0 s0 a0 b0) : pathOK c ⟨q.abs, g0, (g0 + q.segs.length : Nat)⟩ = true := by
  unfold pathOK inR
  have h1 := h.g.le
  rw [gsD_len] at h1
  simp only
  rw [Bool.and_eq_true, List.all_eq_true]
  refine ⟨by simp; omega, fun s hs => ?_⟩
  rw [← gsD_len q.segs s0, sub_at h.g] at hs
  obtain ⟨A, B, e, _⟩ := h.g
  have := G.segs s (by rw [e]; simp [hs])
  unfold segOK inR
  simp; omega
theorem sgl_gs : ∀ (l : List SegT) (s0 : Nat), (l.all fun s => !s.deep && (match s.sels with | [x] => decide (x.kind = 0 ∨ x.kind = 2) | _ => false)) = true →
    (∀ j, j < (selsOf l).length → (c.ss[s0 + j]?).map (·.kind) = ((selsOf l)[j]?).map (·.kind)) → (gsD s0 l).all (sglSeg c) = true
  | [], _, _, _ => rfl
  | s :: r, s0, h, hg => by
    rw [List.all_cons, Bool.and_eq_true] at h
    rw [gsD, List.all_cons, Bool.and_eq_true]
    obtain ⟨h1, h2⟩ := h
    rw [Bool.and_eq_true] at h1
    obtain ⟨h3, h4⟩ := h1
    split at h4
    · rename_i x hx
      have e : selsOf (s :: r) = x :: selsOf r := by unfold selsOf; rw [List.flatMap_cons, hx]; rfl
      rw [e] at hg
      refine ⟨?_, sgl_gs r _ h2 fun j hj => ?_⟩
      · have := hg 0 (by simp)
        rw [Nat.add_zero, List.getElem?_cons_zero] at this
        unfold sglSeg
        simp only [Int.toNat_natCast, hx]
        cases hc : c.ss[s0]? with
        | none => rw [hc] at this; cases this
        | some y =>
          rw [hc] at this
          have e2 : y.kind = x.kind := by simpa using this
          simp at h3 h4 ⊢
          rw [e2]
          exact ⟨h3, h4⟩
      · have := hg (j + 1) (by simp; omega)
        rw [List.getElem?_cons_succ] at this
        rw [hx, List.length_singleton, ← this, show s0 + 1 + j = s0 + (j + 1) by omega]
    · cases h4
theorem flD_get (n : Nat) : ∀ (l : List SelT) (a b j : Nat), ((flD n a b l).1[j]?).map (·.kind) = (l[j]?).map (·.kind)
  | [], _, _, _ => rfl
  | y :: r, a, b, j => by
    rw [flD]
    cases j with
    | zero => split <;> rfl
    | succ j => split <;> (rw [List.getElem?_cons_succ, List.getElem?_cons_succ]; exact flD_get n r _ _ j)
theorem good_single (G : Good S n c Wl) {i : Nat} {q : PathT} (hi : i < c.ps.length) (hq : Wl[i]? = some q) (h : singB q = true) : singleOK c (i : Int) = true := by
  obtain ⟨q', g0, s0, a0, b0, e, sp⟩ := G.spot i hi
  obtain rfl : q = q' := Option.some.inj (hq.symm.trans e)
  unfold singleOK
  rw [get_P _ sp.p]
  simp only
  rw [spot_path G sp, Bool.true_and, ← gsD_len q.segs s0, sub_at sp.g]
  refine sgl_gs q.segs s0 h fun j hj => ?_
  rw [sp.s.get (by rw [flD_len]; exact hj)]
  exact flD_get n _ _ _ _
theorem good_wok (G : Good S n c Wl) (hl : c.ps.length = Wl.length) (i : Nat) {bm : Nat} (hb : i < bm) : WOK c (i : Int) Wl bm := fun m q h1 hq => by
  have := (List.getElem?_eq_some_iff.1 hq).1
  exact ⟨by omega, by omega, good_single G (by omega) hq⟩
theorem mem_sub {l : List SelD} {s0 : Nat} (h : At l c.ss s0) {fr tt : Int} (h1 : (s0 : Int) ≤ fr) (h2 : tt ≤ (s0 + l.length : Nat)) {y : SelD} (hy : y ∈ sub c.ss fr tt) : y ∈ l := by
  obtain ⟨A, B, e, rfl⟩ := h
  unfold sub at hy
  rw [e, List.drop_append, List.drop_eq_nil_of_le (by omega), List.nil_append] at hy
  rw [List.drop_append] at hy
  have h3 : tt.toNat - fr.toNat ≤ (l.drop (fr.toNat - A.length)).length ∨ fr ≥ tt := by rw [List.length_drop]; omega
  rcases h3 with h3 | h3
  · rw [List.take_append_of_le_length h3] at hy
    exact List.mem_of_mem_drop (List.mem_of_mem_take hy)
  · rw [show tt.toNat - fr.toNat = 0 by omega, List.take_zero] at hy; cases hy
theorem good_sels (G : Good S n c Wl) (hl : c.ps.length = Wl.length) {i : Nat} {x : PathD} (hx : c.ps[i]? = some x) : selsOK c i x = true := by
  have hi := (List.getElem?_eq_some_iff.1 hx).1
  obtain ⟨q, g0, s0, a0, b0, e, sp⟩ := G.spot i hi
  obtain rfl := Option.some.inj (hx.symm.trans sp.p)
  have hw := G.wf q (List.mem_of_getElem? e)
  unfold selsOK
  rw [List.all_eq_true]
  intro s hs
  simp only at hs
  rw [← gsD_len q.segs s0, sub_at sp.g] at hs
  rw [List.all_eq_true]
  intro y hy
  obtain ⟨b1, b2, b3⟩ := gsD_bd q.segs s0 (fun s hs => (hw s hs).1) s hs
  have hm := mem_sub sp.s b1 (by rw [flD_len]; exact b3) hy
  by_cases hk : y.kind = 4
  · obtain ⟨e', a', b', F, f1, _⟩ := (flD_flt _ a0 b0 a0 b0 c.is Wl (sels_wf hw) sp.a sp.w (Nat.le_refl _) (Nat.le_refl _)).1 y hm hk
    rw [flt_ok (good_wok G hl i sp.lt) F f1, Bool.or_true]
  · simp [hk]
theorem good_from (G : Good S n c Wl) (hl : c.ps.length = Wl.length) : ∀ (l : List PathD) (i : Nat), c.ps.drop i = l → pathsFrom c i l = true
  | [], _, _ => rfl
  | x :: r, i, h => by
    rw [pathsFrom, Bool.and_eq_true]
    have hx : c.ps[i]? = some x := by
      have := congrArg (fun l => l[0]?) h
      simpa [List.getElem?_drop] using this
    exact ⟨good_sels G hl hx, good_from G hl r (i + 1) (by rw [← List.drop_drop, h]; rfl)⟩
/-- Sound. -/
theorem good_sound (G : Good S n c Wl) (hl : c.ps.length = Wl.length) (h0 : 0 < Wl.length) : soundL c = true := by
  unfold soundL
  simp only [Bool.and_eq_true, List.all_eq_true, decide_eq_true_eq]
  refine ⟨⟨⟨⟨by omega, fun x hx => ?_⟩, fun s hs => ?_⟩, fun y hy => ?_⟩, good_from G hl _ 0 (List.drop_zero)⟩
  · obtain ⟨i, hi⟩ := List.mem_iff_getElem?.1 hx
    obtain ⟨q, g0, s0, a0, b0, e, sp⟩ := G.spot i (List.getElem?_eq_some_iff.1 hi).1
    obtain rfl := Option.some.inj (hi.symm.trans sp.p)
    exact spot_path G sp
  · have := G.segs s hs
    unfold segOK inR
    simp; omega
  · have := G.kinds y hy
    unfold kindOK
    simp; omega

/-- Where each selector's segment is. -/
theorem seg_of : ∀ (l : List SegT) (s0 j : Nat), j < (selsOf l).length → ∃ s ∈ gsD s0 l, s.fr ≤ (s0 + j : Nat) ∧ ((s0 + j : Nat) : Int) < s.tt ∧ 0 ≤ s.fr
  | [], _, _, h => by simp [selsOf] at h
  | s :: r, s0, j, h => by
    have e : (selsOf (s :: r)).length = s.sels.length + (selsOf r).length := by unfold selsOf; rw [List.flatMap_cons, List.length_append]
    rw [gsD]
    by_cases hj : j < s.sels.length
    · exact ⟨_, List.mem_cons_self, by simp only; omega, by simp only; omega, by simp only; omega⟩
    · obtain ⟨s', h1, h2, h3, h4⟩ := seg_of r (s0 + s.sels.length) (j - s.sels.length) (by omega)
      exact ⟨s', List.mem_cons_of_mem _ h1, by omega, by omega, h4⟩
theorem from_bad {c' : CodeD} : ∀ (l : List PathD) (i k : Nat) (x : PathD), l[k]? = some x → selsOK c' (i + k) x = false → pathsFrom c' i l = false
  | [], _, _, _, h, _ => by simp at h
  | y :: r, i, 0, x, h, hb => by
    obtain rfl := Option.some.inj h
    rw [pathsFrom, show selsOK c' i y = false from hb]; rfl
  | y :: r, i, k + 1, x, h, hb => by
    rw [pathsFrom, from_bad r (i + 1) k x h (by rw [show i + 1 + k = i + (k + 1) by omega]; exact hb), Bool.and_false]
/-- A filter that isn't as it should be. -/
theorem flt_bad (G : Good S n c Wl) {i : Nat} {q : PathT} {g0 s0 a0 b0 : Nat} (sp : Spot n c Wl i q g0 s0 a0 b0) {y : SelD} (hy : y ∈ (flD n a0 b0 (selsOf q.segs)).1) (hk : y.kind = 4) (is' : List InsD) (hb : filterOK (withIs c is') i y.at_ = false) : soundL (withIs c is') = false := by
  have _ := G
  have h1 : selsOK (withIs c is') i ⟨q.abs, g0, (g0 + q.segs.length : Nat)⟩ = false := by
    unfold selsOK
    rw [List.all_eq_false]
    obtain ⟨j, hj⟩ := List.mem_iff_getElem?.1 hy
    have hjl := (List.getElem?_eq_some_iff.1 hj).1
    have hjl' : j < (selsOf q.segs).length := by rw [flD_len] at hjl; exact hjl
    obtain ⟨s, hs, h2, h3, h4⟩ := seg_of q.segs s0 j hjl'
    refine ⟨s, ?_, ?_⟩
    · show s ∈ sub c.gs g0 _
      rw [← gsD_len q.segs s0, sub_at sp.g]; exact hs
    · rw [Bool.not_eq_true, List.all_eq_false]
      refine ⟨y, ?_, by rw [hk, hb]; decide⟩
      show y ∈ sub c.ss s.fr s.tt
      unfold sub
      refine List.mem_iff_getElem?.2 ⟨s0 + j - s.fr.toNat, ?_⟩
      rw [List.getElem?_take_of_lt (by omega), List.getElem?_drop, show s.fr.toNat + (s0 + j - s.fr.toNat) = s0 + j by omega, sp.s.get hjl]
      exact hj
  have h2 := from_bad (c' := withIs c is') c.ps 0 i _ sp.p (by rw [Nat.zero_add]; exact h1)
  unfold soundL
  show (_ && pathsFrom (withIs c is') 0 c.ps) = false
  rw [h2, Bool.and_false]
theorem run_none {c' : CodeD} {p : Int} {a last : Nat} {x : InsD} : ∀ (l : List InsD) (j k : Nat) (hs : List Int), l[j]? = some x → (∀ h, insI c' x p ((k + j : Nat) : Int) (last : Nat) h = none) → runL c' p a last l k hs = none
  | [], _, _, _, h, _ => by simp at h
  | y :: r, 0, k, hs, h, hn => by
    obtain rfl := Option.some.inj h
    rw [runL]
    unfold stepL
    rw [show insI c' y p k last (hs.getD (k - a) 0) = none from hn _]
    rfl
  | y :: r, j + 1, k, hs, h, hn => by
    rw [runL]
    cases stepL c' y p a k last hs with
    | none => rfl
    | some h2 => exact run_none r j (k + 1) h2 h (by rw [show k + 1 + j = k + (j + 1) by omega]; exact hn)
/-- With an instruction turned to one that cannot be, code is not sound. -/
theorem bent_ins (G : Good S n c Wl) {k : Nat} {x x' : InsD} (hx : c.is[k]? = some x) (hop : x'.op = x.op) (h5 : x.op ≠ 5) (hn : ∀ (i m : Nat) (h : Int), insI c x' i k m h = none) : soundL (withIs c (c.is.set k x')) = false := by
  have hk := (List.getElem?_eq_some_iff.1 hx).1
  obtain ⟨i, q, g0, s0, a0, b0, e, sp, k1, k2⟩ := G.cov k hk
  have hw := G.wf q (List.mem_of_getElem? e)
  obtain ⟨y, e', a, b, y1, y2, F, _, y3, y4⟩ := (flD_flt _ a0 b0 a0 b0 c.is Wl (sels_wf hw) sp.a sp.w (Nat.le_refl _) (Nat.le_refl _)).2 k k1 k2
  refine flt_bad G sp y1 y2 _ ?_
  have hl := insN_len n e' F.wf a b
  have hle := F.ins.le
  rw [List.length_append, hl, List.length_singleton] at hle
  have hlt : k < a + lenN n e' := by
    rcases Nat.lt_or_ge k (a + lenN n e') with h | h
    · exact h
    · exfalso
      have hk2 : c.is[a + lenN n e']? = (insN n a b e' ++ [opD 5])[lenN n e']? := F.ins.get (by rw [List.length_append, hl]; simp)
      rw [List.getElem?_append_right (by omega), hl, Nat.sub_self, show a + lenN n e' = k by omega, hx] at hk2
      have := Option.some.inj hk2
      rw [this] at h5; exact h5 rfl
  have hd : (c.is.set k x').drop a = ((insN n a b e').set (k - a) x' ++ opD 5 :: c.is.drop (a + lenN n e' + 1)) := by
    refine List.ext_getElem? fun j => ?_
    rw [List.getElem?_drop]
    by_cases hj : j < lenN n e'
    · rw [List.getElem?_append_left (by rw [List.length_set, hl]; exact hj)]
      by_cases hjk : j = k - a
      · subst hjk
        rw [show a + (k - a) = k by omega, List.getElem?_set_self hk, List.getElem?_set_self (by rw [hl]; exact hj)]
      · rw [List.getElem?_set_ne (by omega), List.getElem?_set_ne (by omega), F.ins.get (by rw [List.length_append, hl]; omega), List.getElem?_append_left (by omega)]
    · rw [List.getElem?_append_right (by rw [List.length_set, hl]; omega), List.length_set, hl, List.getElem?_set_ne (by omega)]
      rcases Nat.eq_zero_or_pos (j - lenN n e') with h0 | h0
      · rw [h0, List.getElem?_cons_zero, F.ins.get (by rw [List.length_append, hl]; simp; omega), List.getElem?_append_right (by omega), hl, h0]; rfl
      · rw [show j - lenN n e' = (j - lenN n e' - 1) + 1 by omega, List.getElem?_cons_succ, List.getElem?_drop]; congr 1; omega
  have hf : ((insN n a b e').set (k - a) x' ++ opD 5 :: c.is.drop (a + lenN n e' + 1)).findIdx? (fun x => x.op == 5) = some (lenN n e') := by
    rw [List.findIdx?_eq_some_iff_getElem]
    refine ⟨by rw [List.length_append, List.length_set, hl]; simp, ?_, fun j hj => ?_⟩
    · rw [List.getElem_append_right (by rw [List.length_set]; omega)]; simp [hl, opD]
    · rw [List.getElem_append_left (by rw [List.length_set]; omega), List.getElem_set]
      split
      · rw [hop]; simp [h5]
      · have := (insN_ok n e' F.wf a b j _ (List.getElem?_eq_getElem (by omega))).op
        simp; omega
  unfold filterOK
  rw [F.at_, if_neg (by omega), Int.toNat_natCast]
  show (match ((c.is.set k x').drop a).findIdx? (fun x => x.op == 5) with
    | none => false
    | some m => match runL (withIs c (c.is.set k x')) i a (a + m) (((c.is.set k x').drop a).take m) a (0 :: List.replicate m (-1)) with
      | none => false
      | some hs => decide (hs.getD m 0 = 1)) = false
  rw [hd, hf]
  simp only
  rw [run_none (x := x') _ (k - a) a _ (by rw [List.getElem?_take_of_lt (by omega), List.getElem?_append_left (by rw [List.length_set]; omega), List.getElem?_set_self (by omega)]) (fun h => by rw [show a + (k - a) = k by omega, insI_is]; exact hn i (a + lenN n e') h)]
/-- Without its last END code is not sound. -/
theorem bent_end (G : Good S n c Wl) (h0 : c.is ≠ []) : soundL (withIs c c.is.dropLast) = false := by
  have hk : c.is.length - 1 < c.is.length := by have := List.length_pos_iff.2 h0; omega
  obtain ⟨i, q, g0, s0, a0, b0, e, sp, k1, k2⟩ := G.cov _ hk
  have hw := G.wf q (List.mem_of_getElem? e)
  obtain ⟨y, e', a, b, y1, y2, F, _, y3, y4⟩ := (flD_flt _ a0 b0 a0 b0 c.is Wl (sels_wf hw) sp.a sp.w (Nat.le_refl _) (Nat.le_refl _)).2 _ k1 k2
  refine flt_bad G sp y1 y2 _ ?_
  have hl := insN_len n e' F.wf a b
  have hle := F.ins.le
  rw [List.length_append, hl, List.length_singleton] at hle
  have hd : c.is.dropLast.drop a = insN n a b e' := by
    refine List.ext_getElem? fun j => ?_
    rw [List.getElem?_drop, List.getElem?_dropLast]
    by_cases hj : j < lenN n e'
    · rw [if_pos (by omega), F.ins.get (by rw [List.length_append, hl]; omega), List.getElem?_append_left (by omega)]
    · rw [if_neg (by omega), List.getElem?_eq_none (by omega)]
  unfold filterOK
  rw [F.at_, if_neg (by omega), Int.toNat_natCast]
  have : (c.is.dropLast.drop a).findIdx? (fun x => x.op == 5) = none := by
    rw [hd, List.findIdx?_eq_none_iff]
    intro x hx
    obtain ⟨j, hj⟩ := List.mem_iff_getElem?.1 hx
    have := (insN_ok n e' F.wf a b j x hj).op
    simp; omega
  show (match (c.is.dropLast.drop a).findIdx? (fun x => x.op == 5) with | none => false | some _ => _) = false
  rw [this]
end

end Go.Proofs.Ytpcbcodmocmilaa
