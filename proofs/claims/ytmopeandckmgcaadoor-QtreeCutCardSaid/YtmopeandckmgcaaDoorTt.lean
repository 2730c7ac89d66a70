/- qlex: what stands behind a comma or a bracket changes no token ahead of it; plain (printed by gen_cutlex.py). -/
import Derived.Test.YtmopeandckmgcaaDoorM1
import Derived.Test.YtmopeandckmgcaaDoorTr
import Derived.Test.YtmopeandckmgcaaDoorTq
namespace Go.Proofs.YtmopeandckmgcaaDoor

def sep (c : UInt8) : Bool := isBk c || c == 44 || c == 93
/-- Behind which nothing of a name, a number, or a sign goes on. -/
def Bnd2 (r : List UInt8) : Prop := r = [] ∨ ∃ c q, r = c :: q ∧ sep c = true
theorem sep_val {c : UInt8} (h : sep c = true) : c = 32 ∨ c = 9 ∨ c = 10 ∨ c = 13 ∨ c = 44 ∨ c = 93 := by
  unfold sep isBk at h; simp at h; rcases h with ((((h | h) | h) | h) | h) | h <;> simp [h]
theorem Bnd_letR2 {r : List UInt8} (h : Bnd2 r) : letR r = 0 := by
  rcases h with rfl | ⟨c, q, rfl, hc⟩
  · rfl
  · rcases sep_val hc with rfl | rfl | rfl | rfl | rfl | rfl <;> rfl
theorem Bnd_dig2 {r : List UInt8} (h : Bnd2 r) : digN r = 0 := by
  rcases h with rfl | ⟨c, q, rfl, hc⟩
  · rfl
  · rcases sep_val hc with rfl | rfl | rfl | rfl | rfl | rfl <;> rfl
theorem Bnd_lt2 {r : List UInt8} (h : Bnd2 r) : r = [] ∨ ∃ c q, r = c :: q ∧ (c.toNat : Int) < 128 := by
  rcases h with rfl | ⟨c, q, rfl, hc⟩
  · exact .inl rfl
  · refine .inr ⟨c, q, rfl, ?_⟩
    rcases sep_val hc with rfl | rfl | rfl | rfl | rfl | rfl <;> decide
theorem scalV_app2 (p r : List UInt8) (hp : p ≠ []) (h : Bnd2 r) : scalV (p ++ r) = scalV p := by
  rcases Bnd_lt2 h with rfl | ⟨c, q, rfl, hc⟩
  · rw [List.append_nil]
  · have hk : ∀ lo hi : Int, 128 ≤ lo → ¬ (lo ≤ (c.toNat : Int) ∧ (c.toNat : Int) ≤ hi) := fun lo hi h1 h2 => by omega
    match p, hp with
    | [b0], _ =>
      show scalV (b0 :: c :: q) = _
      unfold scalV
      simp only
      split
      · rfl
      split
      · rw [if_neg (by omega)]
      split
      · cases q with
        | nil => rfl
        | cons d q => simp only; rw [if_neg (fun hh => by have := hh.1; split at this <;> omega)]
      split
      · cases q with
        | nil => rfl
        | cons d q =>
          cases q with
          | nil => rfl
          | cons e q => simp only; rw [if_neg (fun hh => by have := hh.1; split at this <;> omega)]
      · rfl
    | [b0, b1], _ =>
      show scalV (b0 :: b1 :: c :: q) = _
      unfold scalV
      simp only
      split
      · rfl
      split
      · rfl
      split
      · rw [if_neg (fun hh => by have := hh.2.2.1; omega)]
      split
      · cases q with
        | nil => rfl
        | cons d q => simp only; rw [if_neg (fun hh => by have := hh.2.2.1; omega)]
      · rfl
    | [b0, b1, b2], _ =>
      show scalV (b0 :: b1 :: b2 :: c :: q) = _
      unfold scalV
      simp only
      split
      · rfl
      split
      · rfl
      split
      · rfl
      split
      · rw [if_neg (fun hh => by have := hh.2.2.2.2.1; omega)]
      · rfl
    | b0 :: b1 :: b2 :: b3 :: u, _ => rfl
theorem letL_app2 (p r : List UInt8) (hp : p ≠ []) (h : Bnd2 r) : letL (p ++ r) = letL p := by
  unfold letL; rw [scalV_app2 p r hp h]
theorem letR_app2 (p r : List UInt8) (h : Bnd2 r) : letR (p ++ r) = letR p := by
  cases p with
  | nil => exact Bnd_letR2 h
  | cons c q => unfold letR; rw [letL_app2 _ r (by simp) h]; rfl
theorem namF_app2 : ∀ (f f' : Nat) (p r : List UInt8), Bnd2 r → p.length ≤ f → p.length ≤ f' → namF f (p ++ r) = namF f' p
  | 0, f', p, r, hr, h, _ => by
    have : p = [] := List.eq_nil_of_length_eq_zero (by omega)
    subst this
    rw [List.nil_append, namF_zero _ _ (show letR [] = 0 from rfl), namF_zero _ _ (Bnd_letR2 hr)]
  | f + 1, f', p, r, hr, h, h' => by
    by_cases h0 : letR p = 0
    · rw [namF_zero _ _ h0, namF_zero _ _ (by rw [letR_app2 p r hr]; exact h0)]
    · have hle := letR_le p
      obtain ⟨g, rfl⟩ : ∃ g, f' = g + 1 := ⟨f' - 1, by omega⟩
      rw [namF, namF, letR_app2 p r hr, if_neg h0, if_neg h0, List.drop_append_of_le_length hle, namF_app2 f g _ r hr (by rw [List.length_drop]; omega) (by rw [List.length_drop]; omega)]
theorem nameL_app2 (p r : List UInt8) (hp : p ≠ []) (h : Bnd2 r) : nameL (p ++ r) = nameL p := by
  unfold nameL
  rw [letL_app2 p r hp h]
  split
  · rfl
  · rw [List.drop_append_of_le_length (letL_le p), namF_app2 (p ++ r).length p.length _ r h (by rw [List.length_append, List.length_drop]; omega) (by rw [List.length_drop]; omega)]
theorem digN_app2 : ∀ (p r : List UInt8), Bnd2 r → digN (p ++ r) = digN p
  | [], r, h => Bnd_dig2 h
  | c :: q, r, h => by
    show digN (c :: (q ++ r)) = _
    rw [digN, digN, digN_app2 q r h]
theorem hd_app2 (p r : List UInt8) (c : UInt8) (h : Bnd2 r) (hc : sep c = false) : hd (p ++ r) c = hd p c := by
  cases p with
  | nil =>
    rcases h with rfl | ⟨d, q, rfl, hd'⟩
    · rfl
    · show (d == c) = false
      rw [beq_eq_false_iff_ne]
      rintro rfl
      rw [hc] at hd'; cases hd'
  | cons d q => rfl
theorem numT_app2 (p r : List UInt8) (h : Bnd2 r) : numT (p ++ r) = numT p := by
  unfold numT
  rw [hd_app2 p r 45 h (by decide)]
  have hm : (if hd p 45 = true then 1 else 0) ≤ p.length := by
    split
    · rename_i hh; cases p with
      | nil => cases hh
      | cons => simp
    · omega
  obtain ⟨m, he⟩ : ∃ m, (if hd p 45 = true then 1 else 0) = m := ⟨_, rfl⟩
  rw [he] at hm ⊢
  rw [List.drop_append_of_le_length hm, digN_app2 _ r h, hd_app2 _ r 48 h (by decide), take_app _ r _ (digN_le _)]
  by_cases hs : hd p 45 = true
  · rw [if_pos hs] at he ⊢
    subst he
    rw [if_pos hs, List.drop_append_of_le_length hm, digN_app2 _ r h, take_app _ r _ (digN_le _)]
  · rw [if_neg hs, if_neg hs, digN_app2 _ r h, take_app _ r _ (digN_le _)]
theorem signs_nb2 : ∀ x ∈ signsL, ∀ c ∈ x.drop 1, sep c = false := by decide
theorem sign_app2 (p r : List UInt8) (hp : p ≠ []) (h : Bnd2 r) : signsL.find? (fun x => (p ++ r).take x.length == x) = signsL.find? (fun x => p.take x.length == x) := by
  refine find_congr _ fun x hx => ?_
  by_cases hl : x.length ≤ p.length
  · rw [take_app _ _ _ hl]
  · have hlen : p.take x.length ≠ x := fun e => by have := congrArg List.length e; rw [List.length_take] at this; omega
    have h2 : (p ++ r).take x.length ≠ x := fun e => by
      rcases h with rfl | ⟨c, q, rfl, hc⟩
      · rw [List.append_nil] at e; exact hlen e
      · have hm : c ∈ x.drop 1 := by
          rw [← e]
          obtain ⟨y, p', rfl⟩ : ∃ y p', p = y :: p' := by cases p with | nil => exact absurd rfl hp | cons y p' => exact ⟨y, p', rfl⟩
          simp only [List.length_cons] at hl
          obtain ⟨d, hd⟩ : ∃ d, x.length = p'.length + 2 + d := ⟨x.length - p'.length - 2, by omega⟩
          rw [hd, show p'.length + 2 + d = (p'.length + (d + 1)) + 1 by omega, List.cons_append, List.take_succ_cons, List.drop_succ_cons, List.drop_zero, List.take_append]
          rw [show p'.length + (d + 1) - p'.length = d + 1 by omega]
          simp
        rw [signs_nb2 x hx c hm] at hc; cases hc
    rw [beq_eq_false_iff_ne.2 hlen, beq_eq_false_iff_ne.2 h2]
theorem tokT_app2 (p r : List UInt8) (h : Bnd2 r) (k : Int) (t : List UInt8) (v : Int) (n : Nat) (ht : tokT p = .ok (k, t, v, n)) : tokT (p ++ r) = .ok (k, t, v, n) := by
  cases p with
  | nil => cases ht
  | cons c q =>
    show tokT (c :: (q ++ r)) = _
    unfold tokT at ht ⊢
    simp only at ht ⊢
    by_cases h1 : c = 34 ∨ c = 39
    · rw [if_pos h1] at ht ⊢
      cases hx : txtF (q.length + 1) c q with
      | none => rw [hx] at ht; cases ht
      | some tn =>
        obtain ⟨t', m⟩ := tn
        rw [hx] at ht
        have hm := txtF_len _ _ _ _ _ hx
        have := txtF_loc _ c q t' m hx (q.drop m ++ r) ((q ++ r).length + 1) (by rw [List.length_append]; omega)
        rw [← List.append_assoc, List.take_append_drop] at this
        rw [this]; exact ht
    · rw [if_neg h1] at ht ⊢
      by_cases h2 : isDig c = true ∨ c = 45
      · rw [if_pos h2] at ht ⊢
        have := numT_app2 (c :: q) r h
        rw [List.cons_append] at this
        rw [this]; exact ht
      · rw [if_neg h2] at ht ⊢
        have hn := nameL_app2 (c :: q) r (by simp) h
        have hs := sign_app2 (c :: q) r (by simp) h
        rw [List.cons_append] at hn hs
        rw [hn, hs]
        have ht2 : (c :: (q ++ r)).take (nameL (c :: q)) = (c :: q).take (nameL (c :: q)) := take_app (c :: q) r _ (nameL_le _)
        rw [ht2]; exact ht
theorem tokT_back2 (p r : List UInt8) (h : Bnd2 r) (hp : p ≠ []) (k : Int) (t : List UInt8) (v : Int) (n : Nat) (ht : tokT (p ++ r) = .ok (k, t, v, n)) (hn' : n ≤ p.length) : tokT p = .ok (k, t, v, n) := by
  cases p with
  | nil => exact absurd rfl hp
  | cons c q =>
    rw [List.cons_append] at ht
    unfold tokT at ht ⊢
    simp only at ht ⊢
    by_cases h1 : c = 34 ∨ c = 39
    · rw [if_pos h1] at ht ⊢
      cases hx : txtF ((q ++ r).length + 1) c (q ++ r) with
      | none => rw [hx] at ht; cases ht
      | some tn =>
        obtain ⟨t', m⟩ := tn
        rw [hx] at ht
        have hmn : m + 1 = n := by simp only [Except.ok.injEq, Prod.mk.injEq] at ht; exact ht.2.2.2
        rw [List.length_cons] at hn'
        have := txtF_loc _ c (q ++ r) t' m hx (q.drop m) (q.length + 1) (by omega)
        rw [take_app _ _ _ (by omega), List.take_append_drop] at this
        rw [this]; exact ht
    · rw [if_neg h1] at ht ⊢
      by_cases h2 : isDig c = true ∨ c = 45
      · rw [if_pos h2] at ht ⊢
        have := numT_app2 (c :: q) r h
        rw [List.cons_append] at this
        rw [this] at ht; exact ht
      · rw [if_neg h2] at ht ⊢
        have hn := nameL_app2 (c :: q) r (by simp) h
        have hs := sign_app2 (c :: q) r (by simp) h
        rw [List.cons_append] at hn hs
        rw [hn, hs] at ht
        have ht2 : (c :: (q ++ r)).take (nameL (c :: q)) = (c :: q).take (nameL (c :: q)) := take_app (c :: q) r _ (nameL_le _)
        rw [ht2] at ht; exact ht
/-- A text ends at its mark. -/
theorem txtF_end : ∀ (f : Nat) (mark : UInt8) (l : List UInt8) (t : List UInt8) (n : Nat), txtF f mark l = some (t, n) → l[n - 1]? = some mark
  | 0, _, _, _, _, h => by simp [txtF] at h
  | f + 1, mark, l, t, n, h => by
    unfold txtF at h
    match l with
    | [] => simp at h
    | c :: r =>
      simp only at h
      split at h
      · rename_i hc
        simp only [Option.some.injEq, Prod.mk.injEq] at h
        rw [← h.2]; simp [hc]
      · cases hc : charT mark (c :: r) with
        | none => rw [hc] at h; cases h
        | some xn =>
          obtain ⟨x, m⟩ := xn
          rw [hc] at h
          simp only at h
          have h1 := charT_len mark (c :: r) x m hc
          cases ht : txtF f mark ((c :: r).drop m) with
          | none => rw [ht] at h; cases h
          | some tk =>
            obtain ⟨t', k⟩ := tk
            rw [ht] at h
            simp only [Option.map_some, Option.some.injEq, Prod.mk.injEq] at h
            have h2 := txtF_len f mark _ t' k ht
            have h3 := txtF_end f mark _ t' k ht
            rw [List.getElem?_drop] at h3
            rw [← h.2, show m + k - 1 = m + (k - 1) by omega]
            exact h3
/-- A token that doesn't stand in the bracket alone ends ahead of it. -/
theorem tok_end {p : List UInt8} (hp : p ≠ []) {k : Int} {t : List UInt8} {v : Int} {n : Nat} (h : tokT (p ++ [93]) = .ok (k, t, v, n)) : n ≤ p.length := by
  have hb : Bnd2 [93] := .inr ⟨93, [], rfl, by decide⟩
  cases p with
  | nil => exact absurd rfl hp
  | cons c q =>
    rw [List.cons_append] at h
    unfold tokT at h
    simp only at h
    by_cases h1 : c = 34 ∨ c = 39
    · rw [if_pos h1] at h
      cases hx : txtF ((q ++ [93]).length + 1) c (q ++ [93]) with
      | none => rw [hx] at h; cases h
      | some tn =>
        obtain ⟨t', m⟩ := tn
        rw [hx] at h
        simp only [Except.ok.injEq, Prod.mk.injEq] at h
        have hl := txtF_len _ _ _ _ _ hx
        have he := txtF_end _ _ _ _ _ hx
        rw [List.length_append, List.length_cons, List.length_nil] at hl
        rw [List.length_cons, ← h.2.2.2]
        rcases Nat.lt_or_ge q.length m with hm | hm
        · exfalso
          rw [show m - 1 = q.length by omega, List.getElem?_append_right (Nat.le_refl _), Nat.sub_self] at he
          simp only [List.getElem?_cons_zero, Option.some.injEq] at he
          rw [← he] at h1
          revert h1; decide
        · omega
    · rw [if_neg h1] at h
      by_cases h2 : isDig c = true ∨ c = 45
      · rw [if_pos h2] at h
        have hn := numT_app2 (c :: q) [93] hb
        rw [List.cons_append] at hn
        rw [hn] at h
        cases hnu : numT (c :: q) with
        | error e => rw [hnu] at h; cases h
        | ok vn =>
          obtain ⟨v', m⟩ := vn
          rw [hnu] at h
          simp only [Except.ok.injEq, Prod.mk.injEq] at h
          rw [← h.2.2.2]
          exact (numT_len _ _ _ hnu).2
      · rw [if_neg h2] at h
        have hn := nameL_app2 (c :: q) [93] (by simp) hb
        have hs := sign_app2 (c :: q) [93] (by simp) hb
        rw [List.cons_append] at hn hs
        rw [hn, hs] at h
        by_cases h3 : 0 < nameL (c :: q)
        · rw [if_pos h3] at h
          simp only [Except.ok.injEq, Prod.mk.injEq] at h
          rw [← h.2.2.2]
          exact nameL_le _
        · rw [if_neg h3] at h
          cases hf : signsL.find? (fun x => (c :: q).take x.length == x) with
          | none => rw [hf] at h; cases h
          | some x =>
            rw [hf] at h
            simp only [Except.ok.injEq, Prod.mk.injEq] at h
            have hx := List.find?_some hf
            rw [beq_iff_eq] at hx
            have := congrArg List.length hx
            rw [List.length_take] at this
            omega

end Go.Proofs.YtmopeandckmgcaaDoor
