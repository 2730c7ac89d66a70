/- qlex: QlexOrder's law on lists; plain. -/
import Derived.Test.YtihfhohdnjbahaaDoorUc
namespace Go.Proofs.YtihfhohdnjbahaaDoor

/-- QlexOrder's loop. -/
def ordL (w : List UInt8) : Nat → List TokD → Bool
  | _, [] => true
  | from_, x :: r =>
    if x.at_ < from_ ∨ w.length ≤ x.at_ ∨ (x.gap = true ∧ x.at_ = from_) then false
    else if x.kind = 1 ∨ x.kind = 2 then
      (if x.s.length = 0 ∨ w.length - x.at_ < x.s.length ∨ (w.drop x.at_).take x.s.length ≠ x.s then false else ordL w (x.at_ + x.s.length) r)
    else ordL w (x.at_ + 1) r
theorem bkN_le : ∀ l : List UInt8, bkN l ≤ l.length
  | [] => by simp [bkN]
  | c :: r => by have := bkN_le r; unfold bkN; split <;> simp <;> omega
theorem bkN_lt (u : List UInt8) (h : u.drop (bkN u) ≠ []) : bkN u < u.length := by
  have := bkN_le u
  rcases Nat.lt_or_ge (bkN u) u.length with h1 | h1
  · exact h1
  · exact absurd (List.drop_eq_nil_of_le h1) h
/-- One round of Lex. -/
theorem lexF_step (f a : Nat) (u : List UInt8) (h : u ≠ []) : lexF (f + 1) a u =
    if 0 < bkN u ∧ (a = 0 ∨ u.drop (bkN u) = []) then .error (3, a)
    else match tokT (u.drop (bkN u)) with
      | .error e => .error (e, a + bkN u)
      | .ok (k, t, v, n) =>
        match lexF f (a + bkN u + n) ((u.drop (bkN u)).drop n) with
        | .error e => .error e
        | .ok r => .ok (⟨k, t, v, a + bkN u, decide (0 < bkN u)⟩ :: r) := by
  rw [lexF, if_neg h]
  rfl
theorem lexF_nil (f a : Nat) : lexF f a [] = .ok [] := by cases f <;> simp [lexF]
theorem rest_ne (u : List UInt8) (a : Nat) (h : u ≠ []) (hc : ¬ (0 < bkN u ∧ (a = 0 ∨ u.drop (bkN u) = []))) : u.drop (bkN u) ≠ [] := by
  rcases Nat.eq_zero_or_pos (bkN u) with h0 | h0
  · rw [h0]; exact h
  · exact fun e => hc ⟨h0, .inr e⟩
theorem lexF_ord (w : List UInt8) : ∀ (f a from_ : Nat) (toks : List TokD), from_ ≤ a → lexF f a (w.drop a) = .ok toks → ordL w from_ toks = true
  | 0, _, _, toks, _, h => by simp [lexF] at h; subst h; rfl
  | f + 1, a, from_, toks, hfa, h => by
    by_cases hu : w.drop a = []
    · rw [hu, lexF_nil] at h; cases h; rfl
    · rw [lexF_step f a _ hu] at h
      split at h
      · cases h
      · rename_i hc
        have hne := rest_ne _ a hu hc
        have hlt := bkN_lt _ hne
        rw [List.length_drop] at hlt
        cases ht : tokT ((w.drop a).drop (bkN (w.drop a))) with
        | error e => rw [ht] at h; cases h
        | ok x =>
          obtain ⟨k, t, v, n⟩ := x
          rw [ht] at h
          simp only at h
          have hok := tokT_ok _ k t v n ht
          cases hr : lexF f (a + bkN (w.drop a) + n) (((w.drop a).drop (bkN (w.drop a))).drop n) with
          | error e => rw [hr] at h; cases h
          | ok r =>
            rw [hr] at h
            simp only [Except.ok.injEq] at h
            subst h
            obtain ⟨hn, hl, hs⟩ := hok
            rw [List.drop_drop, List.drop_drop, ← Nat.add_assoc] at hr
            rw [List.drop_drop] at hl hs
            rw [List.length_drop] at hl
            rw [ordL, if_neg (by simp only [decide_eq_true_eq]; omega)]
            by_cases hk : k = 1 ∨ k = 2
            · rw [if_pos hk]
              obtain ⟨h1, h2⟩ := hs hk
              rw [if_neg (by
                simp only [h2]
                intro hh
                rcases hh with hh | hh | hh
                · omega
                · omega
                · exact hh h1.symm), h2]
              exact lexF_ord w f _ _ r (Nat.le_refl _) hr
            · rw [if_neg hk]
              exact lexF_ord w f (a + bkN (w.drop a) + n) _ r (by show a + bkN (w.drop a) + 1 ≤ _; omega) hr
theorem lexF_err (w : List UInt8) : ∀ (f a : Nat) (e : Int × Nat), a ≤ w.length → lexF f a (w.drop a) = .error e → e.2 ≤ w.length
  | 0, _, e, _, h => by simp [lexF] at h
  | f + 1, a, e, hal, h => by
    by_cases hu : w.drop a = []
    · rw [hu, lexF_nil] at h; cases h
    · rw [lexF_step f a _ hu] at h
      have hb := bkN_le (w.drop a)
      rw [List.length_drop] at hb
      split at h
      · cases h; exact hal
      · cases ht : tokT ((w.drop a).drop (bkN (w.drop a))) with
        | error e' => rw [ht] at h; cases h; show a + bkN (w.drop a) ≤ _; omega
        | ok x =>
          obtain ⟨k, t, v, n⟩ := x
          rw [ht] at h
          simp only at h
          obtain ⟨hn, hl, hs⟩ := tokT_ok _ k t v n ht
          cases hr : lexF f (a + bkN (w.drop a) + n) (((w.drop a).drop (bkN (w.drop a))).drop n) with
          | error e' =>
            rw [hr] at h
            simp only [Except.error.injEq] at h
            subst h
            rw [List.drop_drop, List.drop_drop, ← Nat.add_assoc] at hr
            rw [List.drop_drop, List.length_drop] at hl
            exact lexF_err w f (a + bkN (w.drop a) + n) _ (by omega) hr
          | ok r => rw [hr] at h; cases h
/-- QlexOrder. -/
theorem lex_order (w : List UInt8) : match lexL w with | .error e => e.2 ≤ w.length | .ok r => ordL w 0 r = true ∧ r ≠ [] := by
  unfold lexL
  split
  · rename_i e he
    split at he
    · cases he; simp
    · split at he
      · rename_i e' hf
        cases he
        have := lexF_err w (w.length + 1) 0 e (by omega) (by simpa using hf)
        exact this
      · cases he; simp
      · cases he
  · rename_i r he
    split at he
    · cases he
    · split at he
      · cases he
      · cases he
      · rename_i hne hf
        cases he
        exact ⟨lexF_ord w (w.length + 1) 0 0 _ (by omega) (by simpa using hf), fun e => hne e⟩

end Go.Proofs.YtihfhohdnjbahaaDoor
