/- qlex: what a token is told by; plain. -/
import Derived.Test.YtihfhohdnjbahaaDoorUd
namespace Go.Proofs.YtihfhohdnjbahaaDoor

/-- A scalar is told by its own bytes. -/
def Loc (l : List UInt8) (x : Int × Int) : Prop := 0 < x.2 → ∀ r, scalV (l.take x.2.toNat ++ r) = x
theorem Loc_no (l : List UInt8) : Loc l (0, 0) := fun h => absurd h (by simp)
theorem scalV_loc (l : List UInt8) : Loc l (scalV l) := by
  cases l with
  | nil => exact Loc_no _
  | cons b0 r =>
    unfold scalV
    refine ite_P (Loc _) (fun h _ q => ?_) (fun h => ?_)
    · show scalV (b0 :: q) = _
      unfold scalV; simp only; rw [if_pos h]
    refine ite_P (Loc _) (fun h2 => ?_) (fun h2 => ?_)
    · cases r with
      | nil => exact Loc_no _
      | cons b1 r =>
        refine ite_P (Loc _) (fun h3 _ q => ?_) (fun _ => Loc_no _)
        show scalV (b0 :: b1 :: q) = _
        unfold scalV; simp only; rw [if_neg h, if_pos h2, if_pos h3]
    · refine ite_P (Loc _) (fun h3 => ?_) (fun h3 => ?_)
      · cases r with
        | nil => exact Loc_no _
        | cons b1 r =>
          cases r with
          | nil => exact Loc_no _
          | cons b2 r =>
            refine ite_P (Loc _) (fun h4 _ q => ?_) (fun _ => Loc_no _)
            show scalV (b0 :: b1 :: b2 :: q) = _
            unfold scalV; simp only; rw [if_neg h, if_neg h2, if_pos h3, if_pos h4]
      · refine ite_P (Loc _) (fun h4 => ?_) (fun _ => Loc_no _)
        cases r with
        | nil => exact Loc_no _
        | cons b1 r =>
          cases r with
          | nil => exact Loc_no _
          | cons b2 r =>
            cases r with
            | nil => exact Loc_no _
            | cons b3 r =>
              refine ite_P (Loc _) (fun h5 _ q => ?_) (fun _ => Loc_no _)
              show scalV (b0 :: b1 :: b2 :: b3 :: q) = _
              unfold scalV; simp only; rw [if_neg h, if_neg h2, if_neg h3, if_pos h4, if_pos h5]

theorem letL_pos (l : List UInt8) (h : letL l ≠ 0) : (isLet (scalV l).1 && decide (0 < (scalV l).2)) = true ∧ letL l = (scalV l).2.toNat ∧ 0 < (scalV l).2 := by
  unfold letL at h ⊢
  split at h
  · rename_i hc
    rw [if_pos hc]
    refine ⟨hc, rfl, ?_⟩
    rw [Bool.and_eq_true, decide_eq_true_eq] at hc
    exact hc.2
  · exact absurd rfl h
theorem letL_loc (l r : List UInt8) (h : letL l ≠ 0) : letL (l.take (letL l) ++ r) = letL l := by
  obtain ⟨h1, h2, h3⟩ := letL_pos l h
  have hs := scalV_loc l h3 r
  rw [← h2] at hs
  have e : ∀ u, scalV u = scalV l → letL u = letL l := fun u hu => by unfold letL; rw [hu]
  exact e _ hs
/-- Behind which nothing of a name goes on. -/
def Bnd (r : List UInt8) : Prop := r = [] ∨ ∃ c q, r = c :: q ∧ isBk c = true
theorem isBk_val {c : UInt8} (h : isBk c = true) : c = 32 ∨ c = 9 ∨ c = 10 ∨ c = 13 := by
  unfold isBk at h; simp at h; rcases h with ((h | h) | h) | h <;> simp [h]
theorem Bnd_letR {r : List UInt8} (h : Bnd r) : letR r = 0 := by
  rcases h with rfl | ⟨c, q, rfl, hc⟩
  · rfl
  · rcases isBk_val hc with rfl | rfl | rfl | rfl <;> rfl
theorem letR_loc (l r : List UInt8) (h : letR l ≠ 0) : letR (l.take (letR l) ++ r) = letR l := by
  unfold letR at h ⊢
  by_cases h0 : letL l = 0
  · rw [if_pos h0] at h ⊢
    cases l with
    | nil => exact absurd rfl h
    | cons c q =>
      simp only at h ⊢
      by_cases hd : isDig c = true
      · rw [if_pos hd] at h ⊢
        have hl : letL ((c :: q).take 1 ++ r) = 0 := by
          show letL (c :: r) = 0
          have hc := (dig_int c).1 hd
          have hv : scalV (c :: r) = ((c.toNat : Int), 1) := by unfold scalV; simp only; rw [if_pos (by omega)]
          have d1 : decide (97 ≤ (c.toNat : Int)) = false := decide_eq_false (by omega)
          have d2 : decide (65 ≤ (c.toNat : Int)) = false := decide_eq_false (by omega)
          have d3 : decide ((c.toNat : Int) = 95) = false := decide_eq_false (by omega)
          have d4 : decide (128 ≤ (c.toNat : Int)) = false := decide_eq_false (by omega)
          have this : isLet (c.toNat : Int) = false := by unfold isLet; rw [d1, d2, d3, d4]; rfl
          unfold letL; rw [hv]; simp only; rw [this]; rfl
        rw [if_pos hl]
        show (if isDig c = true then 1 else 0) = 1
        rw [if_pos hd]
      · rw [if_neg hd] at h; exact absurd rfl h
  · rw [if_neg h0] at h ⊢
    rw [letL_loc l r h0, if_neg h0]

theorem namF_zero (f : Nat) (r : List UInt8) (h : letR r = 0) : namF f r = 0 := by
  cases f with
  | zero => rfl
  | succ f => rw [namF, if_pos h]
theorem take_parts (l r : List UInt8) (n m : Nat) (hn : n ≤ l.length) : l.take (n + m) ++ r = l.take n ++ ((l.drop n).take m ++ r) ∧ (l.take (n + m) ++ r).drop n = (l.drop n).take m ++ r := by
  have h1 : l.take (n + m) ++ r = l.take n ++ ((l.drop n).take m ++ r) := by rw [← List.append_assoc, ← List.take_add]
  refine ⟨h1, ?_⟩
  rw [h1, List.drop_append_of_le_length (by rw [List.length_take]; omega), List.drop_eq_nil_of_le (by rw [List.length_take]; omega), List.nil_append]
theorem namF_loc : ∀ (f : Nat) (l r : List UInt8) (_ : letR r = 0) (f' : Nat), namF f l + 1 ≤ f' → namF f' (l.take (namF f l) ++ r) = namF f l
  | 0, l, r, hr, f', _ => by rw [namF]; simpa using namF_zero f' r hr
  | f + 1, l, r, hr, f', hf => by
    by_cases h0 : letR l = 0
    · rw [namF_zero _ _ h0] at hf ⊢; simpa using namF_zero f' r hr
    · have e : namF (f + 1) l = letR l + namF f (l.drop (letR l)) := by rw [namF, if_neg h0]
      rw [e] at hf ⊢
      obtain ⟨h1, h2⟩ := take_parts l r (letR l) (namF f (l.drop (letR l))) (letR_le l)
      obtain ⟨k, rfl⟩ : ∃ k, f' = k + 1 := ⟨f' - 1, by omega⟩
      have h3 : letR (l.take (letR l + namF f (l.drop (letR l))) ++ r) = letR l := by rw [h1]; exact letR_loc l _ h0
      rw [namF, h3, if_neg h0, h2, namF_loc f (l.drop (letR l)) r hr k (by omega)]
theorem nameL_loc (l r : List UInt8) (hr : letR r = 0) (h : nameL l ≠ 0) : nameL (l.take (nameL l) ++ r) = nameL l := by
  by_cases h0 : letL l = 0
  · exact absurd (by unfold nameL; rw [if_pos h0]) h
  · have e : nameL l = letL l + namF l.length (l.drop (letL l)) := by unfold nameL; rw [if_neg h0]
    rw [e]
    obtain ⟨h1, h2⟩ := take_parts l r (letL l) (namF l.length (l.drop (letL l))) (letL_le l)
    have h3 : letL (l.take (letL l + namF l.length (l.drop (letL l))) ++ r) = letL l := by rw [h1]; exact letL_loc l _ h0
    have hf := namF_le l.length (l.drop (letL l))
    rw [List.length_drop] at hf
    have hl := letL_le l
    unfold nameL
    rw [h3, if_neg h0, h2, namF_loc _ _ r hr _ (by rw [List.length_append, List.length_take]; omega)]

end Go.Proofs.YtihfhohdnjbahaaDoor
