/- RG32: Ue, Uf, Ug, Uh, Tx joined. -/
import Derived.Test.YtpcbcodmocmilaaGreatDoorRG04
namespace Go.Proofs.YtpcbcodmocmilaaGreatDoor
open Go.RowKit
/- qlex: what a token is told by; plain. -/
section

/-- A scalar is told by its own bytes. -/
def Loc (l : List UInt8) (x : Int × Int) : Prop := 0 < x.2 → ∀ r, scalV (l.take x.2.toNat ++ r) = x
theorem Loc_no (l : List UInt8) : Loc l (0, 0) := fun h => absurd h (by simp)
theorem scalV_loc (l : List UInt8) : Loc l (scalV l) := by
  cases l with
  | nil => exact Loc_no _
  | cons b0 r =>
    unfold scalV
    refine ite_P (Loc _) (fun h _ q => ?_) (fun h => ?_)
    · show scalV (b0 :: q) = _
      unfold scalV; simp only; rw [if_pos h]
    refine ite_P (Loc _) (fun h2 => ?_) (fun h2 => ?_)
    · cases r with
      | nil => exact Loc_no _
      | cons b1 r =>
        refine ite_P (Loc _) (fun h3 _ q => ?_) (fun _ => Loc_no _)
        show scalV (b0 :: b1 :: q) = _
        unfold scalV; simp only; rw [if_neg h, if_pos h2, if_pos h3]
    · refine ite_P (Loc _) (fun h3 => ?_) (fun h3 => ?_)
      · cases r with
        | nil => exact Loc_no _
        | cons b1 r =>
          cases r with
          | nil => exact Loc_no _
          | cons b2 r =>
            refine ite_P (Loc _) (fun h4 _ q => ?_) (fun _ => Loc_no _)
            show scalV (b0 :: b1 :: b2 :: q) = _
            unfold scalV; simp only; rw [if_neg h, if_neg h2, if_pos h3, if_pos h4]
      · refine ite_P (Loc _) (fun h4 => ?_) (fun _ => Loc_no _)
        cases r with
        | nil => exact Loc_no _
        | cons b1 r =>
          cases r with
          | nil => exact Loc_no _
          | cons b2 r =>
            cases r with
            | nil => exact Loc_no _
            | cons b3 r =>
              refine ite_P (Loc _) (fun h5 _ q => ?_) (fun _ => Loc_no _)
              show scalV (b0 :: b1 :: b2 :: b3 :: q) = _
              unfold scalV; simp only; rw [if_neg h, if_neg h2, if_neg h3, if_pos h4, if_pos h5]

theorem namF_zero (f : Nat) (r : List UInt8) (h : letR r = 0) : namF f r = 0 := by
  cases f with
  | zero => rfl
  | succ f => rw [namF, if_pos h]
theorem take_parts (l r : List UInt8) (n m : Nat) (hn : n ≤ l.length) : l.take (n + m) ++ r = l.take n ++ ((l.drop n).take m ++ r) ∧ (l.take (n + m) ++ r).drop n = (l.drop n).take m ++ r := by
  have h1 : l.take (n + m) ++ r = l.take n ++ ((l.drop n).take m ++ r) := by rw [← List.append_assoc, ← List.take_add]
  refine ⟨h1, ?_⟩
  rw [h1, List.drop_append_of_le_length (by rw [List.length_take]; omega), List.drop_eq_nil_of_le (by rw [List.length_take]; omega), List.nil_append]
end
/- qlex: what a token is told by: numbers, signs; plain. -/
section

/-- A character is told by its own bytes. -/
theorem charT_loc (mark : UInt8) (l r : List UInt8) (x : Int) (n : Nat) (h : charT mark l = some (x, n)) : charT mark (l.take n ++ r) = some (x, n) := by
  have hlen := charT_len mark l x n h
  unfold charT at h
  match l with
  | [] => cases h
  | c :: q =>
    simp only at h
    by_cases h1 : c.toNat < 32
    · rw [if_pos h1] at h; cases h
    rw [if_neg h1] at h
    by_cases h2 : c ≠ 92
    · rw [if_pos h2] at h
      by_cases h3 : (scalV (c :: q)).2 = 0
      · rw [if_pos h3] at h; cases h
      · rw [if_neg h3] at h
        simp only [Option.some.injEq, Prod.mk.injEq] at h
        have hp := scalV_len (c :: q)
        have hl := scalV_loc (c :: q) (by omega) r
        rw [h.2] at hl
        obtain ⟨m, rfl⟩ : ∃ m, n = m + 1 := ⟨n - 1, by omega⟩
        have e : (c :: q).take (m + 1) ++ r = c :: (q.take m ++ r) := rfl
        rw [e] at hl ⊢
        unfold charT
        simp only
        rw [if_neg h1, if_pos h2, hl, if_neg h3, h.1, h.2]
    · rw [if_neg h2] at h
      match q with
      | [] => cases h
      | d :: r2 =>
        simp only at h
        by_cases h3 : d = 117
        · rw [if_pos h3] at h
          match r2 with
          | a1 :: a2 :: a3 :: a4 :: r3 =>
            cases hu : unitV (a1 :: a2 :: a3 :: a4 :: r3) with
            | none => rw [hu] at h; cases h
            | some a =>
              rw [hu] at h
              simp only at h
              have hu' : ∀ t, unitV (a1 :: a2 :: a3 :: a4 :: t) = some a := fun t => hu
              by_cases h4 : a < 55296 ∨ 57343 < a
              · rw [if_pos h4] at h
                simp only [Option.some.injEq, Prod.mk.injEq] at h
                obtain ⟨rfl, rfl⟩ := h
                show charT mark (c :: d :: a1 :: a2 :: a3 :: a4 :: r) = _
                unfold charT
                simp only
                rw [if_neg h1, if_neg h2, if_pos h3, hu']; simp only; rw [if_pos h4]
              · rw [if_neg h4] at h
                by_cases h5 : 56320 ≤ a
                · rw [if_pos h5] at h; cases h
                · rw [if_neg h5] at h
                  match r3 with
                  | e1 :: e2 :: e3 :: e4 :: e5 :: e6 :: r4 =>
                    by_cases h6 : (hd ((a1 :: a2 :: a3 :: a4 :: e1 :: e2 :: e3 :: e4 :: e5 :: e6 :: r4).drop 4) 92 && hd ((a1 :: a2 :: a3 :: a4 :: e1 :: e2 :: e3 :: e4 :: e5 :: e6 :: r4).drop 5) 117) = true
                    · rw [if_pos h6] at h
                      cases hb : unitV ((a1 :: a2 :: a3 :: a4 :: e1 :: e2 :: e3 :: e4 :: e5 :: e6 :: r4).drop 6) with
                      | none => rw [hb] at h; cases h
                      | some b =>
                        rw [hb] at h
                        simp only at h
                        have hb' : ∀ t, unitV ((a1 :: a2 :: a3 :: a4 :: e1 :: e2 :: e3 :: e4 :: e5 :: e6 :: t).drop 6) = some b := fun t => hb
                        have h6' : ∀ t, (hd ((a1 :: a2 :: a3 :: a4 :: e1 :: e2 :: e3 :: e4 :: e5 :: e6 :: t).drop 4) 92 && hd ((a1 :: a2 :: a3 :: a4 :: e1 :: e2 :: e3 :: e4 :: e5 :: e6 :: t).drop 5) 117) = true := fun t => h6
                        by_cases h7 : 56320 ≤ b ∧ b ≤ 57343
                        · rw [if_pos h7] at h
                          simp only [Option.some.injEq, Prod.mk.injEq] at h
                          obtain ⟨rfl, rfl⟩ := h
                          show charT mark (c :: d :: a1 :: a2 :: a3 :: a4 :: e1 :: e2 :: e3 :: e4 :: e5 :: e6 :: r) = _
                          unfold charT
                          simp only
                          rw [if_neg h1, if_neg h2, if_pos h3, hu']; simp only; rw [if_neg h4, if_neg h5, if_pos (h6' r), hb' r]; simp only; rw [if_pos h7]
                        · rw [if_neg h7] at h; cases h
                    · rw [if_neg h6] at h; cases h
                  | [] | [_] | [_, _] | [_, _, _] | [_, _, _, _] | [_, _, _, _, _] => split at h <;> first | (simp [unitV] at h; done) | cases h
          | [] | [_] | [_, _] | [_, _, _] => simp [unitV] at h
        · rw [if_neg h3] at h
          cases he : escV mark d with
          | none => rw [he] at h; cases h
          | some e =>
            rw [he] at h
            simp only [Option.map_some, Option.some.injEq, Prod.mk.injEq] at h
            obtain ⟨rfl, rfl⟩ := h
            show charT mark (c :: d :: r) = _
            unfold charT
            simp only
            rw [if_neg h1, if_neg h2, if_neg h3, he]; rfl

theorem txtF_loc : ∀ (f : Nat) (mark : UInt8) (l : List UInt8) (t : List UInt8) (n : Nat), txtF f mark l = some (t, n) → ∀ (r : List UInt8) (f' : Nat), n ≤ f' → txtF f' mark (l.take n ++ r) = some (t, n)
  | 0, _, _, _, _, h, _, _, _ => by simp [txtF] at h
  | f + 1, mark, l, t, n, h, r, f', hf => by
    have hlen := txtF_len _ _ _ _ _ h
    obtain ⟨g, rfl⟩ : ∃ g, f' = g + 1 := ⟨f' - 1, by omega⟩
    cases l with
    | nil => simp [txtF] at h
    | cons c q =>
      rw [txtF] at h
      simp only at h
      by_cases hc : c = mark
      · rw [if_pos hc] at h
        simp only [Option.some.injEq, Prod.mk.injEq] at h
        obtain ⟨rfl, rfl⟩ := h
        show txtF (g + 1) mark (c :: r) = _
        rw [txtF]; simp only; rw [if_pos hc]
      · rw [if_neg hc] at h
        cases hx : charT mark (c :: q) with
        | none => rw [hx] at h; cases h
        | some xm =>
          obtain ⟨x, m⟩ := xm
          rw [hx] at h
          simp only at h
          have h1 := charT_len mark (c :: q) x m hx
          cases ht : txtF f mark ((c :: q).drop m) with
          | none => rw [ht] at h; cases h
          | some tk =>
            obtain ⟨t', k⟩ := tk
            rw [ht] at h
            simp only [Option.map_some, Option.some.injEq, Prod.mk.injEq] at h
            obtain ⟨rfl, rfl⟩ := h
            have h2 := txtF_loc f mark _ t' k ht r g (by omega)
            obtain ⟨p1, p2⟩ := take_parts (c :: q) r m k h1.2
            have h3 := charT_loc mark (c :: q) (((c :: q).drop m).take k ++ r) x m hx
            rw [← p1] at h3
            obtain ⟨u, hu⟩ : ∃ u, (c :: q).take (m + k) ++ r = u := ⟨_, rfl⟩
            rw [hu] at p2 h3 ⊢
            have hu2 : ∃ q', u = c :: q' := by
              rw [← hu, show m + k = (m + k - 1) + 1 by omega]; exact ⟨_, rfl⟩
            obtain ⟨q', rfl⟩ := hu2
            rw [txtF]; simp only; rw [if_neg hc, h3]; simp only; rw [p2, h2]; rfl

end
/- qlex: a token is told by its own bytes and what bounds it; plain. -/
section

end
/- qlex: what stands behind a blank changes no token ahead of it; plain. -/
section

theorem take_app (p r : List UInt8) (n : Nat) (h : n ≤ p.length) : (p ++ r).take n = p.take n := List.take_append_of_le_length h
theorem find_congr {α : Type} {P Q : α → Bool} : ∀ (l : List α), (∀ x ∈ l, P x = Q x) → l.find? P = l.find? Q
  | [], _ => rfl
  | x :: l, h => by
    rw [List.find?_cons, List.find?_cons, h x (by simp), find_congr l (fun y hy => h y (by simp [hy]))]
end
/- qlex: what stands behind a comma, a bracket or a colon changes no token ahead of it; plain (printed by gen_tx.py). -/
section

def sep3 (c : UInt8) : Bool := isBk c || c == 44 || c == 93 || c == 41 || c == 58
/-- Behind which nothing of a name, a number, or a sign goes on. -/
def Bnd3 (r : List UInt8) : Prop := r = [] ∨ ∃ c q, r = c :: q ∧ sep3 c = true
theorem sep_val3 {c : UInt8} (h : sep3 c = true) : c = 32 ∨ c = 9 ∨ c = 10 ∨ c = 13 ∨ c = 44 ∨ c = 93 ∨ c = 41 ∨ c = 58 := by
  unfold sep3 isBk at h; simp at h; rcases h with ((((((h | h) | h) | h) | h) | h) | h) | h <;> simp [h]
theorem Bnd_letR3 {r : List UInt8} (h : Bnd3 r) : letR r = 0 := by
  rcases h with rfl | ⟨c, q, rfl, hc⟩
  · rfl
  · rcases sep_val3 hc with rfl | rfl | rfl | rfl | rfl | rfl | rfl | rfl <;> rfl
theorem Bnd_dig3 {r : List UInt8} (h : Bnd3 r) : digN r = 0 := by
  rcases h with rfl | ⟨c, q, rfl, hc⟩
  · rfl
  · rcases sep_val3 hc with rfl | rfl | rfl | rfl | rfl | rfl | rfl | rfl <;> rfl
theorem Bnd_lt3 {r : List UInt8} (h : Bnd3 r) : r = [] ∨ ∃ c q, r = c :: q ∧ (c.toNat : Int) < 128 := by
  rcases h with rfl | ⟨c, q, rfl, hc⟩
  · exact .inl rfl
  · refine .inr ⟨c, q, rfl, ?_⟩
    rcases sep_val3 hc with rfl | rfl | rfl | rfl | rfl | rfl | rfl | rfl <;> decide
theorem scalV_app3 (p r : List UInt8) (hp : p ≠ []) (h : Bnd3 r) : scalV (p ++ r) = scalV p := by
  rcases Bnd_lt3 h with rfl | ⟨c, q, rfl, hc⟩
  · rw [List.append_nil]
  · have hk : ∀ lo hi : Int, 128 ≤ lo → ¬ (lo ≤ (c.toNat : Int) ∧ (c.toNat : Int) ≤ hi) := fun lo hi h1 h2 => by omega
    match p, hp with
    | [b0], _ =>
      show scalV (b0 :: c :: q) = _
      unfold scalV
      simp only
      split
      · rfl
      split
      · rw [if_neg (by omega)]
      split
      · cases q with
        | nil => rfl
        | cons d q => simp only; rw [if_neg (fun hh => by have := hh.1; split at this <;> omega)]
      split
      · cases q with
        | nil => rfl
        | cons d q =>
          cases q with
          | nil => rfl
          | cons e q => simp only; rw [if_neg (fun hh => by have := hh.1; split at this <;> omega)]
      · rfl
    | [b0, b1], _ =>
      show scalV (b0 :: b1 :: c :: q) = _
      unfold scalV
      simp only
      split
      · rfl
      split
      · rfl
      split
      · rw [if_neg (fun hh => by have := hh.2.2.1; omega)]
      split
      · cases q with
        | nil => rfl
        | cons d q => simp only; rw [if_neg (fun hh => by have := hh.2.2.1; omega)]
      · rfl
    | [b0, b1, b2], _ =>
      show scalV (b0 :: b1 :: b2 :: c :: q) = _
      unfold scalV
      simp only
      split
      · rfl
      split
      · rfl
      split
      · rfl
      split
      · rw [if_neg (fun hh => by have := hh.2.2.2.2.1; omega)]
      · rfl
    | b0 :: b1 :: b2 :: b3 :: u, _ => rfl
theorem letL_app3 (p r : List UInt8) (hp : p ≠ []) (h : Bnd3 r) : letL (p ++ r) = letL p := by
  unfold letL; rw [scalV_app3 p r hp h]
theorem letR_app3 (p r : List UInt8) (h : Bnd3 r) : letR (p ++ r) = letR p := by
  cases p with
  | nil => exact Bnd_letR3 h
  | cons c q => unfold letR; rw [letL_app3 _ r (by simp) h]; rfl
theorem namF_app3 : ∀ (f f' : Nat) (p r : List UInt8), Bnd3 r → p.length ≤ f → p.length ≤ f' → namF f (p ++ r) = namF f' p
  | 0, f', p, r, hr, h, _ => by
    have : p = [] := List.eq_nil_of_length_eq_zero (by omega)
    subst this
    rw [List.nil_append, namF_zero _ _ (show letR [] = 0 from rfl), namF_zero _ _ (Bnd_letR3 hr)]
  | f + 1, f', p, r, hr, h, h' => by
    by_cases h0 : letR p = 0
    · rw [namF_zero _ _ h0, namF_zero _ _ (by rw [letR_app3 p r hr]; exact h0)]
    · have hle := letR_le p
      obtain ⟨g, rfl⟩ : ∃ g, f' = g + 1 := ⟨f' - 1, by omega⟩
      rw [namF, namF, letR_app3 p r hr, if_neg h0, if_neg h0, List.drop_append_of_le_length hle, namF_app3 f g _ r hr (by rw [List.length_drop]; omega) (by rw [List.length_drop]; omega)]
theorem nameL_app3 (p r : List UInt8) (hp : p ≠ []) (h : Bnd3 r) : nameL (p ++ r) = nameL p := by
  unfold nameL
  rw [letL_app3 p r hp h]
  split
  · rfl
  · rw [List.drop_append_of_le_length (letL_le p), namF_app3 (p ++ r).length p.length _ r h (by rw [List.length_append, List.length_drop]; omega) (by rw [List.length_drop]; omega)]
theorem digN_app3 : ∀ (p r : List UInt8), Bnd3 r → digN (p ++ r) = digN p
  | [], r, h => Bnd_dig3 h
  | c :: q, r, h => by
    show digN (c :: (q ++ r)) = _
    rw [digN, digN, digN_app3 q r h]
theorem hd_app3 (p r : List UInt8) (c : UInt8) (h : Bnd3 r) (hc : sep3 c = false) : hd (p ++ r) c = hd p c := by
  cases p with
  | nil =>
    rcases h with rfl | ⟨d, q, rfl, hd'⟩
    · rfl
    · show (d == c) = false
      rw [beq_eq_false_iff_ne]
      rintro rfl
      rw [hc] at hd'; cases hd'
  | cons d q => rfl
theorem numT_app3 (p r : List UInt8) (h : Bnd3 r) : numT (p ++ r) = numT p := by
  unfold numT
  rw [hd_app3 p r 45 h (by decide)]
  have hm : (if hd p 45 = true then 1 else 0) ≤ p.length := by
    split
    · rename_i hh; cases p with
      | nil => cases hh
      | cons => simp
    · omega
  obtain ⟨m, he⟩ : ∃ m, (if hd p 45 = true then 1 else 0) = m := ⟨_, rfl⟩
  rw [he] at hm ⊢
  rw [List.drop_append_of_le_length hm, digN_app3 _ r h, hd_app3 _ r 48 h (by decide), take_app _ r _ (digN_le _)]
  by_cases hs : hd p 45 = true
  · rw [if_pos hs] at he ⊢
    subst he
    rw [if_pos hs, List.drop_append_of_le_length hm, digN_app3 _ r h, take_app _ r _ (digN_le _)]
  · rw [if_neg hs, if_neg hs, digN_app3 _ r h, take_app _ r _ (digN_le _)]
theorem signs_nb3 : ∀ x ∈ signsL, ∀ c ∈ x.drop 1, sep3 c = false := by decide
theorem sign_app3 (p r : List UInt8) (hp : p ≠ []) (h : Bnd3 r) : signsL.find? (fun x => (p ++ r).take x.length == x) = signsL.find? (fun x => p.take x.length == x) := by
  refine find_congr _ fun x hx => ?_
  by_cases hl : x.length ≤ p.length
  · rw [take_app _ _ _ hl]
  · have hlen : p.take x.length ≠ x := fun e => by have := congrArg List.length e; rw [List.length_take] at this; omega
    have h2 : (p ++ r).take x.length ≠ x := fun e => by
      rcases h with rfl | ⟨c, q, rfl, hc⟩
      · rw [List.append_nil] at e; exact hlen e
      · have hm : c ∈ x.drop 1 := by
          rw [← e]
          obtain ⟨y, p', rfl⟩ : ∃ y p', p = y :: p' := by cases p with | nil => exact absurd rfl hp | cons y p' => exact ⟨y, p', rfl⟩
          simp only [List.length_cons] at hl
          obtain ⟨d, hd⟩ : ∃ d, x.length = p'.length + 2 + d := ⟨x.length - p'.length - 2, by omega⟩
          rw [hd, show p'.length + 2 + d = (p'.length + (d + 1)) + 1 by omega, List.cons_append, List.take_succ_cons, List.drop_succ_cons, List.drop_zero, List.take_append]
          rw [show p'.length + (d + 1) - p'.length = d + 1 by omega]
          simp
        rw [signs_nb3 x hx c hm] at hc; cases hc
    rw [beq_eq_false_iff_ne.2 hlen, beq_eq_false_iff_ne.2 h2]
theorem tokT_app3 (p r : List UInt8) (h : Bnd3 r) (k : Int) (t : List UInt8) (v : Int) (n : Nat) (ht : tokT p = .ok (k, t, v, n)) : tokT (p ++ r) = .ok (k, t, v, n) := by
  cases p with
  | nil => cases ht
  | cons c q =>
    show tokT (c :: (q ++ r)) = _
    unfold tokT at ht ⊢
    simp only at ht ⊢
    by_cases h1 : c = 34 ∨ c = 39
    · rw [if_pos h1] at ht ⊢
      cases hx : txtF (q.length + 1) c q with
      | none => rw [hx] at ht; cases ht
      | some tn =>
        obtain ⟨t', m⟩ := tn
        rw [hx] at ht
        have hm := txtF_len _ _ _ _ _ hx
        have := txtF_loc _ c q t' m hx (q.drop m ++ r) ((q ++ r).length + 1) (by rw [List.length_append]; omega)
        rw [← List.append_assoc, List.take_append_drop] at this
        rw [this]; exact ht
    · rw [if_neg h1] at ht ⊢
      by_cases h2 : isDig c = true ∨ c = 45
      · rw [if_pos h2] at ht ⊢
        have := numT_app3 (c :: q) r h
        rw [List.cons_append] at this
        rw [this]; exact ht
      · rw [if_neg h2] at ht ⊢
        have hn := nameL_app3 (c :: q) r (by simp) h
        have hs := sign_app3 (c :: q) r (by simp) h
        rw [List.cons_append] at hn hs
        rw [hn, hs]
        have ht2 : (c :: (q ++ r)).take (nameL (c :: q)) = (c :: q).take (nameL (c :: q)) := take_app (c :: q) r _ (nameL_le _)
        rw [ht2]; exact ht

end

end Go.Proofs.YtpcbcodmocmilaaGreatDoor
