/- qlex: what a token is told by: numbers, signs; plain. -/
import Derived.Test.YtihfhohdnjbahaaDoorUe
namespace Go.Proofs.YtihfhohdnjbahaaDoor

theorem digN_loc : ∀ (l r : List UInt8) (_ : digN r = 0), digN (l.take (digN l) ++ r) = digN l
  | [], r, hr => by simpa [digN] using hr
  | c :: l, r, hr => by
    by_cases hc : isDig c = true
    · have e : digN (c :: l) = digN l + 1 := by rw [digN, if_pos hc]
      rw [e, List.take_succ_cons, List.cons_append, digN, if_pos hc, digN_loc l r hr]
    · have e : digN (c :: l) = 0 := by rw [digN, if_neg hc]
      rw [e]; simpa using hr
theorem Bnd_dig {r : List UInt8} (h : Bnd r) : digN r = 0 := by
  rcases h with rfl | ⟨c, q, rfl, hc⟩
  · rfl
  · rcases isBk_val hc with rfl | rfl | rfl | rfl <;> rfl
theorem signs_loc (x r : List UInt8) (hx : x ∈ signsL) (hr : Bnd r) : signsL.find? (fun y => (x ++ r).take y.length == y) = some x := by
  simp only [signsL, List.mem_cons, List.not_mem_nil, or_false] at hx
  rcases hr with rfl | ⟨c, q, rfl, hc⟩
  · rcases hx with rfl | rfl | rfl | rfl | rfl | rfl | rfl | rfl | rfl | rfl | rfl | rfl | rfl | rfl | rfl | rfl | rfl | rfl | rfl | rfl | rfl <;> rfl
  · rcases isBk_val hc with rfl | rfl | rfl | rfl <;> rcases hx with rfl | rfl | rfl | rfl | rfl | rfl | rfl | rfl | rfl | rfl | rfl | rfl | rfl | rfl | rfl | rfl | rfl | rfl | rfl | rfl | rfl <;> rfl

theorem hexV_units (l r : List UInt8) (a : Int) (h : unitV l = some a) : unitV (l.take 4 ++ r) = some a := by
  match l, h with
  | a1 :: a2 :: a3 :: a4 :: q, h => exact h
  | [], h => cases h
  | [_], h => cases h
  | [_, _], h => cases h
  | [_, _, _], h => cases h
/-- A character is told by its own bytes. -/
theorem charT_loc (mark : UInt8) (l r : List UInt8) (x : Int) (n : Nat) (h : charT mark l = some (x, n)) : charT mark (l.take n ++ r) = some (x, n) := by
  have hlen := charT_len mark l x n h
  unfold charT at h
  match l with
  | [] => cases h
  | c :: q =>
    simp only at h
    by_cases h1 : c.toNat < 32
    · rw [if_pos h1] at h; cases h
    rw [if_neg h1] at h
    by_cases h2 : c ≠ 92
    · rw [if_pos h2] at h
      by_cases h3 : (scalV (c :: q)).2 = 0
      · rw [if_pos h3] at h; cases h
      · rw [if_neg h3] at h
        simp only [Option.some.injEq, Prod.mk.injEq] at h
        have hp := scalV_len (c :: q)
        have hl := scalV_loc (c :: q) (by omega) r
        rw [h.2] at hl
        obtain ⟨m, rfl⟩ : ∃ m, n = m + 1 := ⟨n - 1, by omega⟩
        have e : (c :: q).take (m + 1) ++ r = c :: (q.take m ++ r) := rfl
        rw [e] at hl ⊢
        unfold charT
        simp only
        rw [if_neg h1, if_pos h2, hl, if_neg h3, h.1, h.2]
    · rw [if_neg h2] at h
      match q with
      | [] => cases h
      | d :: r2 =>
        simp only at h
        by_cases h3 : d = 117
        · rw [if_pos h3] at h
          match r2 with
          | a1 :: a2 :: a3 :: a4 :: r3 =>
            cases hu : unitV (a1 :: a2 :: a3 :: a4 :: r3) with
            | none => rw [hu] at h; cases h
            | some a =>
              rw [hu] at h
              simp only at h
              have hu' : ∀ t, unitV (a1 :: a2 :: a3 :: a4 :: t) = some a := fun t => hu
              by_cases h4 : a < 55296 ∨ 57343 < a
              · rw [if_pos h4] at h
                simp only [Option.some.injEq, Prod.mk.injEq] at h
                obtain ⟨rfl, rfl⟩ := h
                show charT mark (c :: d :: a1 :: a2 :: a3 :: a4 :: r) = _
                unfold charT
                simp only
                rw [if_neg h1, if_neg h2, if_pos h3, hu']; simp only; rw [if_pos h4]
              · rw [if_neg h4] at h
                by_cases h5 : 56320 ≤ a
                · rw [if_pos h5] at h; cases h
                · rw [if_neg h5] at h
                  match r3 with
                  | e1 :: e2 :: e3 :: e4 :: e5 :: e6 :: r4 =>
                    by_cases h6 : (hd ((a1 :: a2 :: a3 :: a4 :: e1 :: e2 :: e3 :: e4 :: e5 :: e6 :: r4).drop 4) 92 && hd ((a1 :: a2 :: a3 :: a4 :: e1 :: e2 :: e3 :: e4 :: e5 :: e6 :: r4).drop 5) 117) = true
                    · rw [if_pos h6] at h
                      cases hb : unitV ((a1 :: a2 :: a3 :: a4 :: e1 :: e2 :: e3 :: e4 :: e5 :: e6 :: r4).drop 6) with
                      | none => rw [hb] at h; cases h
                      | some b =>
                        rw [hb] at h
                        simp only at h
                        have hb' : ∀ t, unitV ((a1 :: a2 :: a3 :: a4 :: e1 :: e2 :: e3 :: e4 :: e5 :: e6 :: t).drop 6) = some b := fun t => hb
                        have h6' : ∀ t, (hd ((a1 :: a2 :: a3 :: a4 :: e1 :: e2 :: e3 :: e4 :: e5 :: e6 :: t).drop 4) 92 && hd ((a1 :: a2 :: a3 :: a4 :: e1 :: e2 :: e3 :: e4 :: e5 :: e6 :: t).drop 5) 117) = true := fun t => h6
                        by_cases h7 : 56320 ≤ b ∧ b ≤ 57343
                        · rw [if_pos h7] at h
                          simp only [Option.some.injEq, Prod.mk.injEq] at h
                          obtain ⟨rfl, rfl⟩ := h
                          show charT mark (c :: d :: a1 :: a2 :: a3 :: a4 :: e1 :: e2 :: e3 :: e4 :: e5 :: e6 :: r) = _
                          unfold charT
                          simp only
                          rw [if_neg h1, if_neg h2, if_pos h3, hu']; simp only; rw [if_neg h4, if_neg h5, if_pos (h6' r), hb' r]; simp only; rw [if_pos h7]
                        · rw [if_neg h7] at h; cases h
                    · rw [if_neg h6] at h; cases h
                  | [] | [_] | [_, _] | [_, _, _] | [_, _, _, _] | [_, _, _, _, _] => split at h <;> first | (simp [unitV] at h; done) | cases h
          | [] | [_] | [_, _] | [_, _, _] => simp [unitV] at h
        · rw [if_neg h3] at h
          cases he : escV mark d with
          | none => rw [he] at h; cases h
          | some e =>
            rw [he] at h
            simp only [Option.map_some, Option.some.injEq, Prod.mk.injEq] at h
            obtain ⟨rfl, rfl⟩ := h
            show charT mark (c :: d :: r) = _
            unfold charT
            simp only
            rw [if_neg h1, if_neg h2, if_neg h3, he]; rfl

theorem hd_take (l r : List UInt8) (n : Nat) (c : UInt8) (h : 0 < n) (hl : n ≤ l.length) : hd (l.take n ++ r) c = hd l c := by
  cases l with
  | nil => simp at hl; omega
  | cons x q =>
    obtain ⟨m, rfl⟩ : ∃ m, n = m + 1 := ⟨n - 1, by omega⟩
    rfl
theorem txtF_loc : ∀ (f : Nat) (mark : UInt8) (l : List UInt8) (t : List UInt8) (n : Nat), txtF f mark l = some (t, n) → ∀ (r : List UInt8) (f' : Nat), n ≤ f' → txtF f' mark (l.take n ++ r) = some (t, n)
  | 0, _, _, _, _, h, _, _, _ => by simp [txtF] at h
  | f + 1, mark, l, t, n, h, r, f', hf => by
    have hlen := txtF_len _ _ _ _ _ h
    obtain ⟨g, rfl⟩ : ∃ g, f' = g + 1 := ⟨f' - 1, by omega⟩
    cases l with
    | nil => simp [txtF] at h
    | cons c q =>
      rw [txtF] at h
      simp only at h
      by_cases hc : c = mark
      · rw [if_pos hc] at h
        simp only [Option.some.injEq, Prod.mk.injEq] at h
        obtain ⟨rfl, rfl⟩ := h
        show txtF (g + 1) mark (c :: r) = _
        rw [txtF]; simp only; rw [if_pos hc]
      · rw [if_neg hc] at h
        cases hx : charT mark (c :: q) with
        | none => rw [hx] at h; cases h
        | some xm =>
          obtain ⟨x, m⟩ := xm
          rw [hx] at h
          simp only at h
          have h1 := charT_len mark (c :: q) x m hx
          cases ht : txtF f mark ((c :: q).drop m) with
          | none => rw [ht] at h; cases h
          | some tk =>
            obtain ⟨t', k⟩ := tk
            rw [ht] at h
            simp only [Option.map_some, Option.some.injEq, Prod.mk.injEq] at h
            obtain ⟨rfl, rfl⟩ := h
            have h2 := txtF_loc f mark _ t' k ht r g (by omega)
            obtain ⟨p1, p2⟩ := take_parts (c :: q) r m k h1.2
            have h3 := charT_loc mark (c :: q) (((c :: q).drop m).take k ++ r) x m hx
            rw [← p1] at h3
            obtain ⟨u, hu⟩ : ∃ u, (c :: q).take (m + k) ++ r = u := ⟨_, rfl⟩
            rw [hu] at p2 h3 ⊢
            have hu2 : ∃ q', u = c :: q' := by
              rw [← hu, show m + k = (m + k - 1) + 1 by omega]; exact ⟨_, rfl⟩
            obtain ⟨q', rfl⟩ := hu2
            rw [txtF]; simp only; rw [if_neg hc, h3]; simp only; rw [p2, h2]; rfl

end Go.Proofs.YtihfhohdnjbahaaDoor
