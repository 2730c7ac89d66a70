/- How deep a query that is read goes when it is written; plain. -/
import Derived.Test.YtpcbcodmocmilaaGreatDoorCa
namespace Go.Proofs.YtpcbcodmocmilaaGreatDoor

/-- Written at a depth, an expression goes no deeper than 32. -/
inductive Fit : Nat → ExprT → Prop
  | or (d : Nat) (l : List ExprT) : (∀ k ∈ l, k.kind ≠ 0 → Fit d k) → (∀ k ∈ l, k.kind = 0 → d + 1 ≤ 32) → (∀ k ∈ l, k.kind = 0 → Fit (d + 1) k) → Fit d (mkE 0 l)
  | and (d : Nat) (l : List ExprT) : (∀ k ∈ l, ¬ (k.kind = 0 ∨ k.kind = 1) → Fit d k) → (∀ k ∈ l, k.kind = 0 ∨ k.kind = 1 → d + 1 ≤ 32) → (∀ k ∈ l, k.kind = 0 ∨ k.kind = 1 → Fit (d + 1) k) → Fit d (mkE 1 l)
  | not (d : Nat) (k : ExprT) : d + 1 ≤ 32 → (k.kind = 3 → Fit (d + 1) k) → (k.kind ≠ 3 → d + 2 ≤ 32) → (k.kind ≠ 3 → Fit (d + 2) k) → Fit d (mkE 2 [k])
  | test (d : Nat) (p : PathT) : (∀ s ∈ p.segs, ∀ y ∈ s.sels, ∀ e, y.f = some e → d + 1 ≤ 32) → (∀ s ∈ p.segs, ∀ y ∈ s.sels, ∀ e, y.f = some e → Fit (d + 1) e) → Fit d (tstE p)
  | cmp (d : Nat) (op : Int) (a b : SideT) : (∀ s ∈ a.p.segs, ∀ y ∈ s.sels, ∀ e, y.f = some e → d + 1 ≤ 32) → (∀ s ∈ a.p.segs, ∀ y ∈ s.sels, ∀ e, y.f = some e → Fit (d + 1) e) →
      (∀ s ∈ b.p.segs, ∀ y ∈ s.sels, ∀ e, y.f = some e → d + 1 ≤ 32) → (∀ s ∈ b.p.segs, ∀ y ∈ s.sels, ∀ e, y.f = some e → Fit (d + 1) e) → Fit d ⟨4, [], path0, op, a, b⟩
theorem Fit.mono {d : Nat} {x : ExprT} (h : Fit d x) : ∀ {d' : Nat}, d' ≤ d → Fit d' x := by
  induction h with
  | or d l a b c ih1 ih2 => exact fun hd => .or _ l (fun k hk h => ih1 k hk h hd) (fun k hk h => by have := b k hk h; omega) (fun k hk h => ih2 k hk h (by omega))
  | and d l a b c ih1 ih2 => exact fun hd => .and _ l (fun k hk h => ih1 k hk h hd) (fun k hk h => by have := b k hk h; omega) (fun k hk h => ih2 k hk h (by omega))
  | not d k a b c e ih1 ih2 => exact fun hd => .not _ k (by omega) (fun h => ih1 h (by omega)) (fun h => by have := c h; omega) (fun h => ih2 h (by omega))
  | test d p a b ih => exact fun hd => .test _ p (fun s hs y hy e he => by have := a s hs y hy e he; omega) (fun s hs y hy e he => ih s hs y hy e he (by omega))
  | cmp d op a b a1 a2 b1 b2 ih1 ih2 => exact fun hd => .cmp _ op a b (fun s hs y hy e he => by have := a1 s hs y hy e he; omega) (fun s hs y hy e he => ih1 s hs y hy e he (by omega)) (fun s hs y hy e he => by have := b1 s hs y hy e he; omega) (fun s hs y hy e he => ih2 s hs y hy e he (by omega))
def FitS (d : Nat) (y : SelT) : Prop := ∀ e, y.f = some e → d + 1 ≤ 32 ∧ Fit (d + 1) e
def FitP (d : Nat) (p : PathT) : Prop := ∀ s ∈ p.segs, ∀ y ∈ s.sels, FitS d y
theorem FitP.path0 (d : Nat) : FitP d path0 := fun s hs => by simp [Go.Proofs.YtpcbcodmocmilaaGreatDoor.path0] at hs
theorem FitS.none {d : Nat} {y : SelT} (h : y.f = none) : FitS d y := fun e he => by rw [h] at he; cases he
theorem Fit.tst {d : Nat} {p : PathT} (h : FitP d p) : Fit d (tstE p) := .test d p (fun s hs y hy e he => (h s hs y hy e he).1) (fun s hs y hy e he => (h s hs y hy e he).2)
theorem Fit.cm {d : Nat} {op : Int} {a b : SideT} (ha : FitP d a.p) (hb : FitP d b.p) : Fit d ⟨4, [], Go.Proofs.YtpcbcodmocmilaaGreatDoor.path0, op, a, b⟩ := .cmp d op a b (fun s hs y hy e he => (ha s hs y hy e he).1) (fun s hs y hy e he => (ha s hs y hy e he).2) (fun s hs y hy e he => (hb s hs y hy e he).1) (fun s hs y hy e he => (hb s hs y hy e he).2)
theorem ite_fail {c : Prop} [Decidable c] {a e : Int} {t : PSt} (he : (if c then failS a e t else t).fe = 0) (h : e ≠ 0) : t.fe = 0 := by
  split at he
  · exact absurd he (failS_fe h)
  · exact he
section
variable {E : Int} {P : Nat → PSt → ExprT × PSt} {d : Nat}
/-- What a reader of expressions gives, deeper than d. -/
def FP (P : Nat → PSt → ExprT × PSt) (d : Nat) : Prop := ∀ d', d < d' → d' ≤ 32 → ∀ t, (P d' t).2.fe = 0 → Fit d' (P d' t).1
variable (hP : FP P d) (hB : BadP P)
include hP hB
theorem call_f {t : PSt} (he : (P (d + 1) (openS E d t)).2.fe = 0) : d + 1 ≤ 32 ∧ Fit (d + 1) (P (d + 1) (openS E d t)).1 := by
  by_cases ho : (openS E d t).fe = 0
  · obtain ⟨_, h2, _⟩ := open_ok ho
    exact ⟨h2, hP (d + 1) (by omega) h2 _ he⟩
  · rw [hB (d + 1) _ ho] at he; exact absurd he ho
theorem sel_f {t : PSt} (he : (selF E P d t).2.fe = 0) : FitS d (selF E P d t).1 := by
  unfold selF at he ⊢
  split
  · exact .none rfl
  rename_i h1; rw [if_neg h1] at he
  split
  · exact .none rfl
  rename_i h2; rw [if_neg h2] at he
  split
  · rename_i h3
    rw [if_pos h3] at he
    have := call_f (E := E) hP hB he
    intro e hee
    obtain rfl := Option.some.inj hee
    exact this
  split
  · refine .none ?_
    unfold numbersS num2S
    (repeat' split) <;> rfl
  · exact .none rfl
theorem selsL_f : ∀ (f : Nat) (t : PSt), (selsL E P d f t).2.fe = 0 → ∀ y ∈ (selsL E P d f t).1, FitS d y
  | 0, t, _ => fun y hy => by simp [selsL] at hy
  | f + 1, t, he => by
    rw [selsL] at he ⊢
    by_cases hi : isS [44] t = true
    · rw [if_pos hi] at he ⊢
      simp only at he ⊢
      have hs := ok_of (fun hs => by rw [selsL_bad f hs]) he
      intro y hy
      rcases List.mem_cons.1 hy with rfl | hy
      · exact sel_f hP hB hs
      · exact selsL_f f _ he y hy
    · rw [if_neg hi]; exact fun y hy => by simp at hy
theorem sels_f {t : PSt} (he : (selsF E P d t).2.fe = 0) : ∀ y ∈ (selsF E P d t).1, FitS d y := by
  unfold selsF at he ⊢
  simp only at he ⊢
  obtain ⟨-, m1, -⟩ := must_ok he
  have hs := ok_of (fun hs => by rw [selsL_bad _ hs]) m1
  intro y hy
  rcases List.mem_cons.1 hy with rfl | hy
  · exact sel_f hP hB hs
  · exact selsL_f hP hB _ _ m1 y hy
theorem seg_f {t : PSt} (he : (segF E P d t).2.fe = 0) : ∀ y ∈ (segF E P d t).1.sels, FitS d y := by
  unfold segF at he ⊢
  by_cases h1 : isS [91] t = true
  · rw [if_pos h1] at he ⊢
    exact sels_f hP hB he
  · rw [if_neg h1] at he ⊢
    unfold dotF at he ⊢
    split
    · rename_i h2
      rw [if_pos h2] at he
      exact sels_f hP hB he
    split
    · intro y hy; simp at hy; rw [hy]; exact .none rfl
    split
    · intro y hy; simp at hy; rw [hy]; exact .none rfl
    · intro y hy; simp at hy
theorem segsL_f : ∀ (f : Nat) (t : PSt), (segsL E P d f t).2.fe = 0 → ∀ s ∈ (segsL E P d f t).1, ∀ y ∈ s.sels, FitS d y
  | 0, t, _ => fun y hy => by simp [segsL] at hy
  | f + 1, t, he => by
    rw [segsL] at he ⊢
    by_cases hi : isSeg t = true
    · rw [if_pos hi] at he ⊢
      simp only at he ⊢
      have hs := ok_of (fun hs => by rw [segsL_bad f hs]) he
      intro y hy
      rcases List.mem_cons.1 hy with rfl | hy
      · exact seg_f hP hB hs
      · exact segsL_f f _ he y hy
    · rw [if_neg hi]; exact fun y hy => by simp at hy
theorem path_f {t : PSt} (he : (pathF E P d t).2.fe = 0) : FitP d (pathF E P d t).1 := by
  unfold pathF at he ⊢
  exact segsL_f hP hB _ _ he
theorem side_f {t : PSt} (he : (sideF E P d t).2.fe = 0) : FitP d (sideF E P d t).1.p := by
  unfold sideF at he ⊢
  by_cases h1 : isPath t = true
  · rw [if_pos h1] at he ⊢
    exact path_f hP hB he
  · rw [if_neg h1] at he ⊢
    cases hl : litS t with
    | none => rw [hl] at he; exact absurd he (formS_fe _ _)
    | some x =>
      have hx : x.p = path0 := by
        unfold litS at hl
        (repeat' split at hl) <;> first | (obtain rfl := Option.some.inj hl; rfl) | cases hl
      simp only
      rw [hx]; exact FitP.path0 d
theorem cmp_f {t : PSt} (he : (cmpF E P d t).2.fe = 0) : Fit d (cmpF E P d t).1 ∧ (cmpF E P d t).1.kind ≠ 0 ∧ (cmpF E P d t).1.kind ≠ 1 := by
  have key := cmp2_bad (E := E) (P := P) (d := d) (t := (sideF E P d t).2) (sideF E P d t).1
  unfold cmpF at he ⊢
  have h1 := ok_of (fun hs => by rw [key hs]) he
  have ha := side_f hP hB h1
  unfold cmp2 at he ⊢
  by_cases ho : opS (sideF E P d t).2 < 0
  · rw [if_pos ho]
    exact ⟨.tst ha, by simp [tstE], by simp [tstE]⟩
  · rw [if_neg ho] at he ⊢
    simp only at he ⊢
    exact ⟨.cm ha (side_f hP hB (ite_fail he (by decide))), by simp, by simp⟩
theorem round_f {t : PSt} (he : (roundF E P d t).2.fe = 0) : d + 1 ≤ 32 ∧ Fit (d + 1) (roundF E P d t).1 := by
  unfold roundF at he ⊢
  simp only at he ⊢
  exact call_f hP hB (must_ok he).2.1
end
section
variable {E : Int} {P : Nat → PSt → ExprT × PSt}
theorem FP.le {d d' : Nat} (h : FP P d) (hd : d ≤ d') : FP P d' := fun d2 h2 => h d2 (by omega)
theorem not_f {m : Bool} {d : Nat} (hd : d + 1 ≤ 32) (hP : FP P (d + 1)) (hB : BadP P) {t : PSt} (he : (notF m E P (d + 1) t).2.fe = 0) : Fit d (notF m E P (d + 1) t).1 ∧ (notF m E P (d + 1) t).1.kind = 2 := by
  unfold notF at he ⊢
  by_cases h1 : isS [40] t = true
  · rw [if_pos h1] at he ⊢
    obtain ⟨k1, k2⟩ := round_f hP hB he
    exact ⟨.not d _ hd (fun _ => k2.mono (by omega)) (fun _ => by omega) (fun _ => k2), rfl⟩
  · rw [if_neg h1] at he ⊢
    by_cases h2 : isPath t = true
    · rw [if_pos h2] at he ⊢
      exact ⟨.not d _ hd (fun _ => .tst (path_f hP hB he)) (fun h => absurd rfl h) (fun h => absurd rfl h), rfl⟩
    · rw [if_neg h2] at he; exact absurd he (formS_fe _ _)
def FK (d : Nat) (c : ExprT → Prop) (x : ExprT) : Prop := Fit d x ∧ (c x → d + 1 ≤ 32 ∧ Fit (d + 1) x)
theorem one_f {m : Bool} {d : Nat} (hP : FP P d) (hB : BadP P) {t : PSt} (he : (oneF m E P d t).2.fe = 0) : FK d (fun x => x.kind = 0 ∨ x.kind = 1) (oneF m E P d t).1 := by
  unfold oneF at he ⊢
  by_cases h1 : isS [33] t = true
  · rw [if_pos h1] at he ⊢
    have hd := (open_ok (ok_of (fun hs => notF_bad m hs) he)).2.1
    obtain ⟨k1, k2⟩ := not_f hd (hP.le (Nat.le_add_right d 1)) hB he
    exact ⟨k1, fun h => by simp only at h; rw [k2] at h; omega⟩
  · rw [if_neg h1] at he ⊢
    by_cases h2 : isS [40] t = true
    · rw [if_pos h2] at he ⊢
      obtain ⟨k1, k2⟩ := round_f hP hB he
      exact ⟨k2.mono (by omega), fun _ => ⟨k1, k2⟩⟩
    · rw [if_neg h2] at he ⊢
      obtain ⟨k1, k2, k3⟩ := cmp_f hP hB he
      exact ⟨k1, fun h => absurd h (by omega)⟩
theorem listL_f {Q : ExprT → Prop} {F : PSt → ExprT × PSt} {sg : List UInt8} (hF : ∀ t, (F t).2.fe = 0 → Q (F t).1) : ∀ (f : Nat) (t : PSt), (listL E sg F f t).2.fe = 0 → (∀ t, t.fe ≠ 0 → (F t).2 = t) → ∀ y ∈ (listL E sg F f t).1, Q y
  | 0, t, _, _ => fun y hy => by simp [listL] at hy
  | f + 1, t, he, hb => by
    rw [listL] at he ⊢
    by_cases hi : isS sg t = true
    · rw [if_pos hi] at he ⊢
      simp only at he ⊢
      have hs := ok_of (fun hs => by rw [listL_bad f hs]) he
      intro y hy
      rcases List.mem_cons.1 hy with rfl | hy
      · exact hF _ hs
      · exact listL_f hF f _ he hb y hy
    · rw [if_neg hi]; exact fun y hy => by simp at hy
theorem list_f {Q R : ExprT → Prop} {F : PSt → ExprT × PSt} {sg : List UInt8} {k : Int} (hk : ∀ l : List ExprT, (∀ y ∈ l, Q y) → R (mkE k l)) (hQ : ∀ x, Q x → R x) (hF : ∀ t, (F t).2.fe = 0 → Q (F t).1) (hb : ∀ t, t.fe ≠ 0 → (F t).2 = t) {t : PSt} (he : (listF E sg k F t).2.fe = 0) : R (listF E sg k F t).1 := by
  unfold listF at he ⊢
  simp only at he ⊢
  have hs := ok_of (fun hs => by rw [listL_bad _ hs]) he
  have h1 := hF t hs
  have h2 := listL_f (E := E) (sg := sg) hF _ _ he hb
  unfold joinE
  split
  · exact hQ _ h1
  · refine hk _ fun y hy => ?_
    rcases List.mem_cons.1 hy with rfl | hy
    · exact h1
    · exact h2 y hy
theorem and_f {m : Bool} {d : Nat} (hP : FP P d) (hB : BadP P) {t : PSt} (he : (andF m E P d t).2.fe = 0) : FK d (fun x => x.kind = 0) (andF m E P d t).1 :=
  list_f (Q := FK d fun x => x.kind = 0 ∨ x.kind = 1) (R := FK d fun x => x.kind = 0) (fun l h => ⟨.and d l (fun k hk _ => (h k hk).1) (fun k hk hh => ((h k hk).2 hh).1) (fun k hk hh => ((h k hk).2 hh).2), fun h0 => by simp [mkE] at h0⟩)
    (fun x h => ⟨h.1, fun h0 => h.2 (.inl h0)⟩) (fun _ h => one_f hP hB h) (fun _ h => oneF_bad m h) he
theorem or_f {m : Bool} {d : Nat} (hP : FP P d) (hB : BadP P) {t : PSt} (he : (orF m E P d t).2.fe = 0) : Fit d (orF m E P d t).1 :=
  list_f (Q := FK d fun x => x.kind = 0) (R := Fit d) (fun l h => .or d l (fun k hk _ => (h k hk).1) (fun k hk hh => ((h k hk).2 hh).1) (fun k hk hh => ((h k hk).2 hh).2)) (fun _ h => h.1) (fun _ h => and_f hP hB h) (fun t h => andF_bad m t h) he
theorem orS_f (m : Bool) (E : Int) : ∀ (n d : Nat), 33 ≤ n + d + 1 → FP (orS m E n) d
  | 0, d, hn => fun d' h1 h2 => absurd h2 (by omega)
  | n + 1, d, hn => fun d' _ h2 t he => or_f (orS_f m E n d' (by omega)) (orS_bad m E n) he
/-- A query that is read goes, written, no deeper than 32. -/
theorem parse2_f {m : Bool} {t : PSt} {p : PathT} (hp : parse2 m E t = .ok p) : FitP 0 p := by
  unfold parse2 at hp
  have hfe : (if ovS (parse1 m E t).2 then (parse1 m E t).2 else formS E (parse1 m E t).2).fe = 0 ∧ (parse1 m E t).1 = p := by
    revert hp
    generalize (if ovS (parse1 m E t).2 then (parse1 m E t).2 else formS E (parse1 m E t).2) = u
    intro hp
    split at hp
    · rename_i h0; exact ⟨h0, Except.ok.inj hp⟩
    · cases hp
  obtain ⟨h0, rfl⟩ := hfe
  have h1 : (parse1 m E t).2.fe = 0 := by
    split at h0
    · exact h0
    · exact absurd h0 (formS_fe _ _)
  unfold parse1 at h1 ⊢
  exact path_f (orS_f m E 34 0 (by omega)) (orS_bad m E 34) h1
end

end Go.Proofs.YtpcbcodmocmilaaGreatDoor
