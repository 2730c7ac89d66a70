/- qlex: a token is told by its own bytes and what bounds it; plain. -/
import Derived.Test.YtihfhohdnjbahaaDoorUf
namespace Go.Proofs.YtihfhohdnjbahaaDoor

theorem num_mk (P Q : Prop) [Decidable P] [Decidable Q] (a : Int) (m : Nat) (hp : ¬ P) (hq : ¬ Q) : (if P then (.error 3 : Except Int (Int × Nat)) else if Q then .error 6 else .ok (a, m)) = .ok (a, m) := by rw [if_neg hp, if_neg hq]
theorem numT_loc (l : List UInt8) (v : Int) (n : Nat) (h : numT l = .ok (v, n)) (r : List UInt8) (hr : digN r = 0) : numT (l.take n ++ r) = .ok (v, n) := by
  have hlen := numT_len l v n h
  have h0 := h
  unfold numT at h
  obtain ⟨h1, h2, h3, h4⟩ := num_aux _ _ _ _ _ _ h
  obtain ⟨m, hm⟩ : ∃ m, (if hd l 45 then 1 else 0) = m := ⟨_, rfl⟩
  have hh := hd_take l r n 45 hlen.1 hlen.2
  rw [hm] at h1 h2 h4
  have hd0 : digN (l.drop m) ≠ 0 := fun e => h1 (.inl e)
  have hdl := digN_le (l.drop m)
  rw [List.length_drop] at hdl
  obtain ⟨p1, p2⟩ := take_parts l r m (digN (l.drop m)) (by omega)
  have hdig := digN_loc (l.drop m) r hr
  have hhd := hd_take (l.drop m) r (digN (l.drop m)) 48 (by omega) (digN_le _)
  have ht : ((l.drop m).take (digN (l.drop m)) ++ r).take (digN (l.drop m)) = (l.drop m).take (digN (l.drop m)) := by
    rw [List.take_append_of_le_length (by rw [List.length_take, List.length_drop]; omega), List.take_take, Nat.min_self]
  have key : numT (l.take n ++ r) = numT l := by
    rw [h0]
    unfold numT
    rw [hh, hm, ← h4, p2, hdig, hhd, ht]
    rw [num_mk _ _ _ _ h1 h2, ← h3]
    by_cases hs : hd l 45 = true
    · rw [hs] at hm
      simp only [if_true] at hm
      subst hm
      rw [if_pos hs, if_pos hs, p2, hdig, ht]
    · rw [Bool.not_eq_true] at hs
      rw [hs] at hm
      simp only [Bool.false_eq_true, if_false] at hm
      subst hm
      simp only [List.drop_zero] at hdig ht p2 ⊢
      rw [hs]
      simp only [Bool.false_eq_true, if_false, Nat.zero_add, hdig, ht]
  rw [key, h0]

theorem signs_let (x r : List UInt8) (hx : x ∈ signsL) : nameL (x ++ r) = 0 := by
  simp only [signsL, List.mem_cons, List.not_mem_nil, or_false] at hx
  rcases hx with rfl | rfl | rfl | rfl | rfl | rfl | rfl | rfl | rfl | rfl | rfl | rfl | rfl | rfl | rfl | rfl | rfl | rfl | rfl | rfl | rfl <;> rfl
theorem tokT_loc (l : List UInt8) (k : Int) (t : List UInt8) (v : Int) (n : Nat) (h : tokT l = .ok (k, t, v, n)) (r : List UInt8) (hr : Bnd r) : tokT (l.take n ++ r) = .ok (k, t, v, n) := by
  obtain ⟨hn, hl, _⟩ := tokT_ok l k t v n h
  cases l with
  | nil => cases h
  | cons c q =>
    unfold tokT at h
    simp only at h
    obtain ⟨m, rfl⟩ : ∃ m, n = m + 1 := ⟨n - 1, by omega⟩
    have e : (c :: q).take (m + 1) ++ r = c :: (q.take m ++ r) := rfl
    by_cases h1 : c = 34 ∨ c = 39
    · rw [if_pos h1] at h
      cases ht : txtF (q.length + 1) c q with
      | none => rw [ht] at h; cases h
      | some tn =>
        obtain ⟨t', m'⟩ := tn
        rw [ht] at h
        simp only [Except.ok.injEq, Prod.mk.injEq] at h
        obtain ⟨rfl, rfl, rfl, h4⟩ := h
        obtain rfl : m' = m := by omega
        have hm := txtF_len _ _ _ _ _ ht
        rw [e]
        unfold tokT
        simp only
        rw [if_pos h1, txtF_loc _ c q t' m' ht r _ (by rw [List.length_append, List.length_take]; omega)]
    · rw [if_neg h1] at h
      by_cases h2 : isDig c = true ∨ c = 45
      · rw [if_pos h2] at h
        cases hnu : numT (c :: q) with
        | error e' => rw [hnu] at h; cases h
        | ok vn =>
          obtain ⟨v', m'⟩ := vn
          rw [hnu] at h
          simp only [Except.ok.injEq, Prod.mk.injEq] at h
          obtain ⟨rfl, rfl, rfl, rfl⟩ := h
          have := numT_loc (c :: q) v' (m + 1) hnu r (Bnd_dig hr)
          rw [e] at this ⊢
          unfold tokT
          simp only
          rw [if_neg h1, if_pos h2, this]
      · rw [if_neg h2] at h
        by_cases h3 : 0 < nameL (c :: q)
        · rw [if_pos h3] at h
          simp only [Except.ok.injEq, Prod.mk.injEq] at h
          obtain ⟨rfl, rfl, rfl, h4⟩ := h
          have := nameL_loc (c :: q) r (Bnd_letR hr) (by omega)
          rw [h4] at this ⊢
          have ht : ((c :: q).take (m + 1) ++ r).take (m + 1) = (c :: q).take (m + 1) := by
            rw [List.take_append_of_le_length (by rw [List.length_take]; omega), List.take_take, Nat.min_self]
          rw [e] at this ht ⊢
          unfold tokT
          simp only
          rw [if_neg h1, if_neg h2, this, if_pos (by omega), ht]
        · rw [if_neg h3] at h
          cases hs : signsL.find? (fun x => (c :: q).take x.length == x) with
          | none => rw [hs] at h; cases h
          | some x =>
            rw [hs] at h
            simp only [Except.ok.injEq, Prod.mk.injEq] at h
            obtain ⟨rfl, rfl, rfl, h4⟩ := h
            have hx := List.find?_some hs
            have hm := List.mem_of_find?_eq_some hs
            have hxe : (c :: q).take x.length = x := by simpa using hx
            rw [← h4, hxe]
            have e2 : ∃ q', x ++ r = c :: q' := ⟨q.take m ++ r, by rw [← e, ← h4, hxe]⟩
            have hf := signs_loc x r hm hr
            have hz := signs_let x r hm
            obtain ⟨q', hq⟩ := e2
            rw [hq] at hf hz ⊢
            unfold tokT
            simp only
            rw [if_neg h1, if_neg h2, hz, if_neg (by omega), hf]

end Go.Proofs.YtihfhohdnjbahaaDoor
