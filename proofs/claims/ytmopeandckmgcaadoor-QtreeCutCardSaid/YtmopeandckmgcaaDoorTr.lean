/- Queries read, plain: two queries one behind the other; a query cut (no word of a dump). -/
import Derived.Test.YtmopeandckmgcaaDoorTo
import Derived.Test.YtmopeandckmgcaaDoorTp
import Derived.Test.YtmopeandckmgcaaDoorM1
namespace Go.Proofs.YtmopeandckmgcaaDoor

theorem parse2_ok {m : Bool} {E : Int} {t : PSt} {p : PathT} (h : parse2 m E t = .ok p) : (parse1 m E t).1 = p ∧ (parse1 m E t).2.toks = [] ∧ (parse1 m E t).2.fe = 0 ∧ isS [36] t = true := by
  unfold parse2 at h
  cases ho : ovS (parse1 m E t).2 with
  | false => rw [ho, if_neg Bool.false_ne_true, if_neg (formS_fe E _)] at h; cases h
  | true =>
    rw [ho, if_pos rfl] at h
    by_cases hf : (parse1 m E t).2.fe = 0
    · rw [if_pos hf] at h
      refine ⟨Except.ok.inj h, ?_, hf, ?_⟩
      · unfold ovS at ho
        rw [hf] at ho
        simpa using ho
      · cases hh : isS [36] t with
        | true => rfl
        | false =>
          exfalso
          unfold parse1 at hf
          rw [hh, if_neg (by decide), pathF_bad (formS_fe E t)] at hf
          exact formS_fe E t hf
    · rw [if_neg hf] at h; cases h
/-- More tokens behind a query: the reading goes on. -/
theorem parse1_app {m : Bool} {E E' : Int} {t : PSt} {p : PathT} (xs : List TokD) (h : parse2 m E t = .ok p) : p.abs = true ∧ ∃ f fa, xs.length ≤ f ∧
    parse1 m E' (appS t xs) = (⟨true, p.segs ++ (segsL E' (orS m E' 34) 0 f ⟨xs, 0, fa⟩).1⟩, (segsL E' (orS m E' 34) 0 f ⟨xs, 0, fa⟩).2) := by
  obtain ⟨h1, h2, h3, h4⟩ := parse2_ok h
  have hne := is_ne h4
  unfold parse1 at h1 h2 h3 ⊢
  rw [h4, if_pos rfl] at h1 h2 h3
  rw [isS_app _ hne, h4, if_pos rfl]
  unfold pathF at h1 h2 h3 ⊢
  rw [isS_app _ hne, h4, nextS_app (E := E) hne]
  rw [h4] at h1
  simp only at h1 h2 h3
  obtain ⟨f, hf, e⟩ := ext_segsT (E := E) (E' := E') (xs := xs) 0 (orS_le m E 34) (ext_orS m m E E' xs 34) (nextS E t).toks.length (appS (nextS E t) xs).toks.length (nextS E t) (Nat.le_refl _) (by unfold appS; simp) h3
  obtain ⟨q, hq⟩ : ∃ q, (segsL E (orS m E 34) 0 (nextS E t).toks.length (nextS E t)) = q := ⟨_, rfl⟩
  rw [hq] at h1 h2 h3 hf e
  obtain ⟨l, toks, fe, fa⟩ := q
  simp only at h1 h2 h3
  subst h2
  subst h3
  refine ⟨by rw [← h1], f, fa, by unfold appS at hf; simpa using hf, ?_⟩
  rw [e, ← h1]
  rfl
theorem parse2_of {m : Bool} {E : Int} {t : PSt} {p : PathT} {s : PSt} (h : parse1 m E t = (p, s)) (h1 : s.toks = []) (h2 : s.fe = 0) : parse2 m E t = .ok p := by
  unfold parse2
  rw [h]
  have ho : ovS s = true := by unfold ovS; rw [h1]; simp
  simp only
  rw [ho, if_pos rfl, if_pos h2]
/-- One token that continues no query. -/
theorem parse2_more {m : Bool} {E E' : Int} {t : PSt} {p : PathT} {x : TokD} (xs : List TokD) (h : parse2 m E t = .ok p) (hx : ∀ fa, isSeg ⟨x :: xs, 0, fa⟩ = false) : parse2 m E' (appS t (x :: xs)) = .error (3, (x.at_ : Nat)) := by
  obtain ⟨-, f, fa, hf, e⟩ := parse1_app (E' := E') (x :: xs) h
  have hs : segsL E' (orS m E' 34) 0 f ⟨x :: xs, 0, fa⟩ = ([], ⟨x :: xs, 0, fa⟩) := by
    cases f with
    | zero => rfl
    | succ f => rw [segsL, hx fa, if_neg Bool.false_ne_true]
  rw [hs] at e
  unfold parse2
  rw [e]
  rfl
theorem lexF_mkerr {f a : Nat} {u : List UInt8} {g : Nat} {k : Int} {t : List UInt8} {v : Int} {n : Nat} {e : Int × Nat} (hu : u ≠ []) (hg : bkN u = g) (hc : ¬ (0 < g ∧ (a = 0 ∨ u.drop g = []))) (ht : tokT (u.drop g) = .ok (k, t, v, n)) (hr : lexF f (a + g + n) (u.drop (g + n)) = .error e) :
    lexF (f + 1) a u = .error e := by
  rw [lexF, if_neg hu, hg, if_neg hc, ht]
  simp only
  rw [List.drop_drop, hr]
theorem lexF_two_err (q : List UInt8) (e : Int × Nat) (A f2 : Nat) (hq : Bnd q) (h2 : lexF f2 A q = .error e) (hf2 : q.length < f2) : ∀ (f a : Nat) (p : List UInt8) (l : List TokD), a + p.length = A → p.length < f → lexF f a p = .ok l → ∀ F, (p ++ q).length < F → lexF F a (p ++ q) = .error e
  | 0, _, _, _, _, h, _, _, _ => absurd h (by omega)
  | f + 1, a, p, l, ha, hf, h, F, hF => by
    by_cases hp : p = []
    · subst hp
      simp only [List.length_nil, Nat.add_zero] at ha
      subst ha
      simp only [List.nil_append] at hF ⊢
      rw [lexF_fuel F f2 _ _ hF hf2]; exact h2
    · obtain ⟨k, t, v, n, r, hc, hne, ht, hn, hl, hbn, hr, rfl⟩ := lexF_inv hp h
      obtain ⟨F', rfl⟩ : ∃ F', F = F' + 1 := ⟨F - 1, by omega⟩
      have hd1 : (p ++ q).drop (bkN p) = p.drop (bkN p) ++ q := List.drop_append_of_le_length (bkN_le p)
      have hd2 : (p ++ q).drop (bkN p + n) = p.drop (bkN p + n) ++ q := List.drop_append_of_le_length hbn
      have hrec := lexF_two_err q e A f2 hq h2 hf2 f (a + bkN p + n) (p.drop (bkN p + n)) r (by rw [List.length_drop]; omega) (by rw [List.length_drop]; omega) hr F' (by rw [List.length_append, List.length_drop]; rw [List.length_append] at hF; omega)
      exact lexF_mkerr (by simp [hp]) (bkN_app p q hne) (fun hh => hc ⟨hh.1, hh.2.imp id fun e => by rw [hd1] at e; exact (List.append_eq_nil_iff.1 e).1⟩) (by rw [hd1]; exact tokT_app _ q hq _ _ _ _ ht) (by rw [hd2]; exact hrec)
theorem AllG.refl_sh (d : Nat) : ∀ l : List TokD, AllG l (l.map (shT d))
  | [] => trivial
  | _ :: l => ⟨⟨rfl, rfl, rfl, rfl⟩, AllG.refl_sh d l⟩
theorem stOf_ok {l : List UInt8} {r : List TokD} (h : lexL l = .ok r) : stOf l = ⟨r, 0, 0⟩ := by unfold stOf; rw [h]
theorem parse_lex {l : List UInt8} {p : PathT} (h : parseT true l = .ok p) : ∃ r, lexL l = .ok r ∧ parse2 true (l.length : Nat) ⟨r, 0, 0⟩ = .ok p := by
  unfold parseT at h
  cases hl : lexL l with
  | error e =>
    exfalso
    obtain ⟨-, -, -, h4⟩ := parse2_ok h
    unfold stOf at h4
    rw [hl] at h4
    simp only at h4
    obtain ⟨_, x, r, e', _⟩ := isS_ok h4
    cases e'
  | ok r => exact ⟨r, rfl, by rw [← stOf_ok hl]; exact h⟩
/-- The first segment's first token: its gap is not looked at. -/
theorem segsL_gap {E : Int} {P : Nat → PSt → ExprT × PSt} {d f : Nat} {x x' : TokD} {r : List TokD} {fa : Int} (h1 : x.kind = x'.kind) (h2 : x.s = x'.s) (hs : isSeg ⟨x :: r, 0, fa⟩ = true) : segsL E P d (f + 1) ⟨x :: r, 0, fa⟩ = segsL E P d (f + 1) ⟨x' :: r, 0, fa⟩ := by
  have k : ∀ l, isS l ⟨x :: r, 0, fa⟩ = isS l ⟨x' :: r, 0, fa⟩ := fun l => by
    unfold isS kindS hdT
    simp only [if_true]
    rw [h1, h2]
  have hn : nextS E ⟨x :: r, 0, fa⟩ = nextS E ⟨x' :: r, 0, fa⟩ := rfl
  have hs' : isSeg ⟨x' :: r, 0, fa⟩ = true := by
    unfold isSeg at hs ⊢
    rw [← k, ← k, ← k]; exact hs
  have hseg : segF E P d ⟨x :: r, 0, fa⟩ = segF E P d ⟨x' :: r, 0, fa⟩ := by
    unfold segF
    rw [k, k, hn]
    split
    · rename_i h91
      have h91' := h91
      rw [← k] at h91'
      unfold selsF mustS
      rw [h91, h91', if_pos rfl, if_pos rfl, hn]
    · rfl
  rw [segsL, segsL, if_pos hs, if_pos hs', hseg]
/-- Two queries, one behind the other, without the second $. -/
theorem many_law {s t : List UInt8} {p q : PathT} (hp : parseT true s = .ok p) (hq : parseT true t = .ok q) (hl : s.length + t.length + 1 ≤ 4096) : ∃ t1, t = 36 :: t1 ∧ p.abs = true ∧
    (t1 = [] → parseT true (s ++ [32]) = .error (3, (s.length : Nat))) ∧ (t1 ≠ [] → parseT true (s ++ 32 :: t1) = .ok ⟨true, p.segs ++ q.segs⟩) := by
  obtain ⟨l, hl1, hp2⟩ := parse_lex hp
  obtain ⟨m, hm1, hq2⟩ := parse_lex hq
  obtain ⟨hs4, hsn, hsf⟩ := lexL_inv hl1
  obtain ⟨ht4, htn, htf⟩ := lexL_inv hm1
  have htne : t ≠ [] := fun e => by subst e; rw [lexF_nil] at htf; cases htf; exact htn rfl
  obtain ⟨k, u, v, n, r, hc, hne, hk, hn, hnl, hbn, hr, rfl⟩ := lexF_inv htne htf
  have hb0 : bkN t = 0 := by
    rcases Nat.eq_zero_or_pos (bkN t) with h | h
    · exact h
    · exact absurd ⟨h, .inl rfl⟩ hc
  rw [hb0] at hk hr hnl
  simp only [List.drop_zero, Nat.zero_add] at hk hr hnl
  obtain ⟨q1, q2, q3, q4⟩ := parse2_ok hq2
  have hk36 : k = 1 ∧ u = [36] := by
    unfold isS kindS hdT at q4
    simp only [if_true, Bool.and_eq_true, decide_eq_true_eq, beq_iff_eq] at q4
    exact q4
  obtain ⟨rfl, rfl⟩ := hk36
  obtain ⟨-, -, ho⟩ := tokT_ok _ _ _ _ _ hk
  obtain ⟨ho1, ho2⟩ := ho (.inl rfl)
  have hn1 : n = 1 := ho2.symm
  subst hn1
  obtain ⟨t1, rfl⟩ : ∃ t1, t = 36 :: t1 := by
    cases t with
    | nil => exact absurd rfl htne
    | cons c t1 =>
      simp only [List.take_succ_cons, List.take_zero, List.cons.injEq, and_true] at ho1
      exact ⟨t1, by rw [← ho1]⟩
  have hsl : s.length ≠ 0 := fun e => by
    have := List.eq_nil_of_length_eq_zero e
    subst this
    rw [lexF_nil] at hsf; cases hsf; exact hsn rfl
  obtain ⟨hpa, -⟩ := parse1_app (E' := 0) [] hp2
  refine ⟨t1, rfl, hpa, ?_, ?_⟩
  · rintro rfl
    have hlex : lexL (s ++ [32]) = .error (3, s.length) := by
      unfold lexL
      rw [if_neg (by simp only [List.length_append, List.length_cons, List.length_nil] at hl ⊢; omega), lexF_two_err [32] (3, s.length) s.length 2 (.inr ⟨32, [], rfl, by decide⟩) (by rw [lexF, if_neg (by decide), if_pos ⟨by decide, .inr (by decide)⟩]) (by decide) (s.length + 1) 0 s l (by omega) (by omega) hsf _ (Nat.lt_succ_self _)]
    unfold parseT stOf
    rw [hlex]
    unfold parse2 parse1
    have hb : ∀ E : Int, (⟨[], 3, (s.length : Nat)⟩ : PSt).fe ≠ 0 := fun _ => by simp
    rw [isS_bad _ (hb 0), if_neg Bool.false_ne_true, formS_bad (hb 0), pathF_bad (hb 0)]
    rfl
  · intro ht1
    simp only [List.drop_succ_cons, List.drop_zero, List.length_cons] at hr
    obtain ⟨k2, u2, v2, n2, r2, hc2, hne2, hk2, hn2, hnl2, hbn2, hr2, rfl⟩ := lexF_inv (f := t1.length) ht1 (by rw [← hr])
    -- the tokens of what is put together
    have hq32 : lexF (t1.length + 2) s.length (32 :: t1) = .ok (⟨k2, u2, v2, s.length + (bkN t1 + 1), true⟩ :: r2.map (shT s.length)) := by
      have hb : bkN (32 :: t1) = bkN t1 + 1 := rfl
      have hsh := lexF_shift s.length t1.length (1 + bkN t1 + n2) (t1.drop (bkN t1 + n2)) r2 (by omega) hr2
      have e := lexF_mk (f := t1.length + 1) (a := s.length) (u := 32 :: t1) (g := bkN t1 + 1) (r := r2.map (shT s.length)) (by simp) hb (fun hh => hh.2.elim hsl fun e => hne2 (by simpa using e)) (by simpa using hk2) (by
        rw [show s.length + (bkN t1 + 1) + n2 = 1 + bkN t1 + n2 + s.length by omega, show bkN t1 + 1 + n2 = (bkN t1 + n2) + 1 by omega, List.drop_succ_cons]
        rw [lexF_fuel (t1.length + 1) t1.length _ _ (by rw [List.length_drop]; omega) (by rw [List.length_drop]; omega)]
        exact hsh)
      rw [e]
      simp
    have hlex : lexL (s ++ 32 :: t1) = .ok (l ++ (⟨k2, u2, v2, s.length + (bkN t1 + 1), true⟩ :: r2.map (shT s.length))) :=
      lexL_mk (by simp only [List.length_append, List.length_cons] at hl ⊢; omega) (by simp) (lexF_two (32 :: t1) _ s.length (t1.length + 2) (.inr ⟨32, t1, rfl, by decide⟩) hq32 (by simp) (s.length + 1) 0 s l (by omega) (by omega) hsf _ (Nat.lt_succ_self _))
    unfold parseT
    rw [stOf_ok hlex]
    obtain ⟨-, f, fa, hf, e⟩ := parse1_app (E' := (((s ++ 32 :: t1).length : Nat) : Int)) (⟨k2, u2, v2, s.length + (bkN t1 + 1), true⟩ :: r2.map (shT s.length)) hp2
    -- the second query's segments
    unfold parse1 at q1 q2 q3
    rw [q4, if_pos rfl] at q1 q2 q3
    unfold pathF at q1 q2 q3
    have hnx : ∀ E : Int, nextS E ⟨⟨1, [36], v, 0 + bkN (36 :: t1), decide (0 < bkN (36 :: t1))⟩ :: ⟨k2, u2, v2, 1 + bkN t1, decide (0 < bkN t1)⟩ :: r2, 0, 0⟩ = ⟨⟨k2, u2, v2, 1 + bkN t1, decide (0 < bkN t1)⟩ :: r2, 0, 0⟩ := fun _ => rfl
    simp only [hnx] at q1 q2 q3
    have hlc : (⟨k2, u2, v2, 1 + bkN t1, decide (0 < bkN t1)⟩ :: r2 : List TokD).length = r2.length + 1 := rfl
    rw [hlc] at q1 q2 q3
    have hsg : isSeg ⟨⟨k2, u2, v2, 1 + bkN t1, decide (0 < bkN t1)⟩ :: r2, 0, 0⟩ = true := by
      cases hh : isSeg ⟨⟨k2, u2, v2, 1 + bkN t1, decide (0 < bkN t1)⟩ :: r2, 0, 0⟩ with
      | true => rfl
      | false =>
        exfalso
        rw [segsL, hh, if_neg Bool.false_ne_true] at q2
        cases q2
    rw [segsL_gap (x := ⟨k2, u2, v2, 1 + bkN t1, decide (0 < bkN t1)⟩) (x' := ⟨k2, u2, v2, 1 + bkN t1, true⟩) rfl rfl hsg] at q1 q2 q3
    have hal := alike_segsL 0 (alike_orS true (((36 :: t1).length : Nat) : Int) (((s ++ 32 :: t1).length : Nat) : Int) 34) (E := (((36 :: t1).length : Nat) : Int)) (E' := (((s ++ 32 :: t1).length : Nat) : Int)) (r2.length + 1) (t := ⟨⟨k2, u2, v2, 1 + bkN t1, true⟩ :: r2, 0, 0⟩) (t' := ⟨⟨k2, u2, v2, s.length + (bkN t1 + 1), true⟩ :: r2.map (shT s.length), 0, fa⟩) ⟨⟨⟨rfl, rfl, rfl, rfl⟩, AllG.refl_sh _ _⟩, rfl⟩
    obtain ⟨w, hw⟩ : ∃ w, segsL (((s ++ 32 :: t1).length : Nat) : Int) (orS true (((s ++ 32 :: t1).length : Nat) : Int) 34) 0 (r2.length + 1) ⟨⟨k2, u2, v2, s.length + (bkN t1 + 1), true⟩ :: r2.map (shT s.length), 0, fa⟩ = w := ⟨_, rfl⟩
    rw [hw] at hal
    have w1 : w.1 = q.segs := by rw [← hal.eq, ← q1]
    have w2 : w.2.toks = [] := List.eq_nil_of_length_eq_zero (by rw [← hal.st.len, q2]; rfl)
    have w3 : w.2.fe = 0 := by rw [← hal.st.fe]; exact q3
    obtain ⟨g, hg, eg⟩ := ext_segsT (E := (((s ++ 32 :: t1).length : Nat) : Int)) (E' := (((s ++ 32 :: t1).length : Nat) : Int)) (xs := []) 0 (orS_le true _ 34) (ext_orS true true _ (((s ++ 32 :: t1).length : Nat) : Int) [] 34) (r2.length + 1) f ⟨⟨k2, u2, v2, s.length + (bkN t1 + 1), true⟩ :: r2.map (shT s.length), 0, fa⟩ (by simp) (by simpa using hf) (by rw [hw]; exact w3)
    rw [hw] at eg
    have hap : ∀ x : PSt, appS x [] = x := fun x => by unfold appS; rw [List.append_nil]
    rw [hap, hap] at eg
    have hend : segsL (((s ++ 32 :: t1).length : Nat) : Int) (orS true (((s ++ 32 :: t1).length : Nat) : Int) 34) 0 g w.2 = ([], w.2) := by
      have hno : isSeg w.2 = false := by
        cases hh : isSeg w.2 with
        | false => rfl
        | true =>
          have := segF_lt (orS_le true (((s ++ 32 :: t1).length : Nat) : Int) 34) 0 (E := (((s ++ 32 :: t1).length : Nat) : Int)) hh
          rw [w2] at this
          simp at this
      cases g with
      | zero => rfl
      | succ g => rw [segsL, hno, if_neg Bool.false_ne_true]
    rw [hend] at eg
    rw [eg] at e
    simp only [List.append_nil] at e
    rw [w1] at e
    exact parse2_of e w2 w3

end Go.Proofs.YtmopeandckmgcaaDoor
