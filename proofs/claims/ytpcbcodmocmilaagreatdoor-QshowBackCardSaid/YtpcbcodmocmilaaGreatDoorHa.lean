/- A text written in single marks is read back; plain. -/
import Derived.Test.YtpcbcodmocmilaaGreatDoorG27
import Derived.Test.YtpcbcodmocmilaaGreatDoorG29
namespace Go.Proofs.YtpcbcodmocmilaaGreatDoor

theorem ofN_eq (b : UInt8) (n : Int) (h : n = (b.toNat : Int)) : UInt8.ofNat n.toNat = b := by
  subst h; simp
theorem runU_dead : ∀ r : List UInt8, runU 8 r = 8
  | [] => rfl
  | b :: r => by
    rw [runU_cons, show ustep 8 (b.toNat : Int) = 8 from by unfold ustep; simp]
    exact runU_dead r
theorem more_U {st t lo hi : Int} (hst : ∀ b : Int, ustep st b = if lo ≤ b ∧ b ≤ hi then t else 8) (h0 : st ≠ 0) {r : List UInt8} (h : runU st r = 0) : ∃ b r', r = b :: r' ∧ lo ≤ (b.toNat : Int) ∧ (b.toNat : Int) ≤ hi ∧ runU t r' = 0 := by
  cases r with
  | nil => exact absurd h h0
  | cons b r' =>
    rw [runU_cons, hst] at h
    by_cases hb : lo ≤ (b.toNat : Int) ∧ (b.toNat : Int) ≤ hi
    · rw [if_pos hb] at h; exact ⟨b, r', rfl, hb.1, hb.2, h⟩
    · rw [if_neg hb, runU_dead] at h; cases h
set_option maxRecDepth 100000 in
/-- How a right text begins. -/
theorem right_cases {s : List UInt8} (h : runU 0 s = 0) (hs : s ≠ []) : (∃ c r, s = c :: r ∧ c.toNat < 128 ∧ runU 0 r = 0) ∨
    (∃ p r x, s = p ++ r ∧ (∀ c ∈ p, 128 ≤ c.toNat) ∧ 2 ≤ p.length ∧ runU 0 r = 0 ∧ putV x = p ∧ ∀ q, scalV (p ++ q) = (x, (p.length : Int))) := by
  match s, hs with
  | b0 :: r, _ =>
    by_cases h1 : (b0.toNat : Int) < 128
    · rw [runU_cons, us0_a h1] at h
      exact .inl ⟨b0, r, rfl, by omega, h⟩
    · right
      by_cases h2 : 194 ≤ (b0.toNat : Int) ∧ (b0.toNat : Int) ≤ 223
      · rw [runU_cons, us0_b h2] at h
        obtain ⟨b1, r, rfl, e1, e2, h⟩ := more_U us1b (by omega) h
        refine ⟨[b0, b1], r, ((b0.toNat : Int) - 192) * 64 + ((b1.toNat : Int) - 128), rfl, fun c hc => ?_, by simp, h, ?_, fun q => ?_⟩
        · simp at hc; rcases hc with rfl | rfl <;> omega
        · unfold putV
          rw [if_neg (by omega), if_pos (by omega), ofN_eq b0 _ (by omega), ofN_eq b1 _ (by omega)]
        · show scalV (b0 :: b1 :: q) = _
          unfold scalV
          simp only
          rw [if_neg h1, if_pos h2, if_pos ⟨e1, e2⟩]; rfl
      · by_cases h3 : 224 ≤ (b0.toNat : Int) ∧ (b0.toNat : Int) ≤ 239
        · rw [runU_cons] at h
          have key : ∃ b1 r', r = b1 :: r' ∧ (if (b0.toNat : Int) = 224 then (160 : Int) else 128) ≤ (b1.toNat : Int) ∧ (b1.toNat : Int) ≤ (if (b0.toNat : Int) = 237 then (159 : Int) else 191) ∧ runU 1 r' = 0 := by
            rcases us0_c h3 with ⟨e1, e2⟩ | ⟨e1, e2⟩ | ⟨e1, e2, e3⟩
            · rw [e2] at h; rw [if_pos e1, if_neg (by omega)]; exact more_U us4 (by omega) h
            · rw [e2] at h; rw [if_neg (by omega), if_pos e1]; exact more_U us5 (by omega) h
            · rw [e3] at h; rw [if_neg e1, if_neg e2]; exact more_U us2 (by omega) h
          obtain ⟨b1, r, rfl, q1, q2, h⟩ := key
          obtain ⟨b2, r, rfl, q3, q4, h⟩ := more_U us1b (by omega) h
          have hlo : 128 ≤ (b1.toNat : Int) ∧ ((b0.toNat : Int) = 224 → 160 ≤ (b1.toNat : Int)) := by
            by_cases e : (b0.toNat : Int) = 224
            · rw [if_pos e] at q1; omega
            · rw [if_neg e] at q1; omega
          have hhi : (b1.toNat : Int) ≤ 191 := by
            by_cases e : (b0.toNat : Int) = 237
            · rw [if_pos e] at q2; omega
            · rw [if_neg e] at q2; omega
          refine ⟨[b0, b1, b2], r, (((b0.toNat : Int) - 224) * 64 + ((b1.toNat : Int) - 128)) * 64 + ((b2.toNat : Int) - 128), rfl, fun c hc => ?_, by simp, h, ?_, fun q => ?_⟩
          · simp at hc; rcases hc with rfl | rfl | rfl <;> omega
          · unfold putV
            rw [if_neg (by omega), if_neg (by omega), if_pos (by omega), ofN_eq b0 _ (by omega), ofN_eq b1 _ (by omega), ofN_eq b2 _ (by omega)]
          · show scalV (b0 :: b1 :: b2 :: q) = _
            unfold scalV
            simp only
            rw [if_neg h1, if_neg h2, if_pos h3, if_pos ⟨q1, q2, q3, q4⟩]; rfl
        · by_cases h4 : 240 ≤ (b0.toNat : Int) ∧ (b0.toNat : Int) ≤ 244
          · rw [runU_cons] at h
            have key : ∃ b1 r', r = b1 :: r' ∧ (if (b0.toNat : Int) = 240 then (144 : Int) else 128) ≤ (b1.toNat : Int) ∧ (b1.toNat : Int) ≤ (if (b0.toNat : Int) = 244 then (143 : Int) else 191) ∧ runU 2 r' = 0 := by
              rcases us0_d h4 with ⟨e1, e2⟩ | ⟨e1, e2⟩ | ⟨e1, e2, e3⟩
              · rw [e2] at h; rw [if_pos e1, if_neg (by omega)]; exact more_U us6 (by omega) h
              · rw [e2] at h; rw [if_neg (by omega), if_pos e1]; exact more_U us7 (by omega) h
              · rw [e3] at h; rw [if_neg (by omega), if_neg (by omega)]; exact more_U us3 (by omega) h
            obtain ⟨b1, r, rfl, q1, q2, h⟩ := key
            obtain ⟨b2, r, rfl, q3, q4, h⟩ := more_U us2 (by omega) h
            obtain ⟨b3, r, rfl, q5, q6, h⟩ := more_U us1b (by omega) h
            have hlo : 128 ≤ (b1.toNat : Int) ∧ ((b0.toNat : Int) = 240 → 144 ≤ (b1.toNat : Int)) := by
              by_cases e : (b0.toNat : Int) = 240
              · rw [if_pos e] at q1; omega
              · rw [if_neg e] at q1; omega
            have hhi : (b1.toNat : Int) ≤ 191 := by
              by_cases e : (b0.toNat : Int) = 244
              · rw [if_pos e] at q2; omega
              · rw [if_neg e] at q2; omega
            refine ⟨[b0, b1, b2, b3], r, ((((b0.toNat : Int) - 240) * 64 + ((b1.toNat : Int) - 128)) * 64 + ((b2.toNat : Int) - 128)) * 64 + ((b3.toNat : Int) - 128), rfl, fun c hc => ?_, by simp, h, ?_, fun q => ?_⟩
            · simp at hc; rcases hc with rfl | rfl | rfl | rfl <;> omega
            · unfold putV
              rw [if_neg (by omega), if_neg (by omega), if_neg (by omega), ofN_eq b0 _ (by omega), ofN_eq b1 _ (by omega), ofN_eq b2 _ (by omega), ofN_eq b3 _ (by omega)]
            · show scalV (b0 :: b1 :: b2 :: b3 :: q) = _
              unfold scalV
              simp only
              rw [if_neg h1, if_neg h2, if_neg h3, if_pos h4, if_pos ⟨q1, q2, q3, q4, q5, q6⟩]; rfl
          · exfalso
            have e8 : ustep 0 (b0.toNat : Int) = 8 := by
              have := UInt8.toNat_lt b0
              unfold ustep ufirst
              rw [if_pos rfl, if_neg h1, if_neg h2, if_neg (by omega), if_neg (by omega), if_neg (by omega), if_neg (by omega), if_neg (by omega), if_neg (by omega)]
            rw [runU_cons, e8, runU_dead] at h
            cases h
theorem esc_high {c : UInt8} (h : 128 ≤ c.toNat) : escB 39 c = [c] := by
  unfold escB
  rw [if_neg (by rintro (e | e) <;> rw [e] at h <;> revert h <;> decide), if_neg (by omega)]
theorem flat_high : ∀ p : List UInt8, (∀ c ∈ p, 128 ≤ c.toNat) → p.flatMap (escB 39) = p
  | [], _ => rfl
  | c :: r, h => by rw [List.flatMap_cons, esc_high (h c (by simp)), flat_high r fun x hx => h x (by simp [hx])]; rfl
theorem hexV_C (d : Nat) (hd : d < 16) : hexV (hexC d) = some (d : Int) :=
  (by decide : ∀ i : Fin 16, hexV (hexC i.val) = some (i.val : Int)) ⟨d, hd⟩
set_option maxRecDepth 100000 in
/-- A byte below 128, written, is read. -/
theorem char_asc (c : UInt8) (hc : c.toNat < 128) (q : List UInt8) : charT 39 (escB 39 c ++ q) = some ((c.toNat : Int), (escB 39 c).length) ∧ putV (c.toNat : Int) = [c] ∧ (escB 39 c ++ q).head? ≠ some 39 ∧ 0 < (escB 39 c).length := by
  have hp : putV (c.toNat : Int) = [c] := by unfold putV; rw [if_pos (by omega)]; simp
  refine ⟨?_, hp, ?_⟩
  · by_cases h1 : c = 39
    · subst h1; rfl
    by_cases h2 : c = 92
    · subst h2; rfl
    by_cases h3 : c.toNat < 32
    · have e : escB 39 c = signB c := by unfold escB; rw [if_neg (by simp [h1, h2]), if_pos h3]
      rw [e]
      by_cases k1 : c = 8
      · subst k1; rfl
      by_cases k2 : c = 12
      · subst k2; rfl
      by_cases k3 : c = 10
      · subst k3; rfl
      by_cases k4 : c = 13
      · subst k4; rfl
      by_cases k5 : c = 9
      · subst k5; rfl
      have e2 : signB c = [92, 117, 48, 48, hexC (c.toNat / 16), hexC (c.toNat % 16)] := by
        unfold signB; rw [if_neg k1, if_neg k2, if_neg k3, if_neg k4, if_neg k5]
      rw [e2]
      have hu : unitV (48 :: 48 :: hexC (c.toNat / 16) :: hexC (c.toNat % 16) :: q) = some (c.toNat : Int) := by
        simp only [unitV]
        rw [hexV_C _ (by omega), hexV_C _ (by omega), show hexV 48 = some 0 from rfl]
        simp only [Option.bind_some, Option.map_some]
        congr 1
        omega
      show charT 39 (92 :: 117 :: 48 :: 48 :: hexC (c.toNat / 16) :: hexC (c.toNat % 16) :: q) = _
      unfold charT
      simp only
      rw [if_neg (by decide), if_neg (by decide), if_pos trivial, hu]
      simp only
      rw [if_pos (by omega)]; rfl
    · have e : escB 39 c = [c] := by unfold escB; rw [if_neg (by simp [h1, h2]), if_neg h3]
      rw [e]
      show charT 39 (c :: q) = _
      have hs : scalV (c :: q) = ((c.toNat : Int), 1) := by unfold scalV; simp only; rw [if_pos (by omega)]
      unfold charT
      simp only
      rw [if_neg h3, if_pos h2, hs, if_neg (show ¬ ((1 : Int) = 0) by decide)]; rfl
  · by_cases h1 : c = 39
    · subst h1; exact ⟨by show some (92 : UInt8) ≠ some 39; decide, by decide⟩
    by_cases h2 : c = 92
    · subst h2; exact ⟨by show some (92 : UInt8) ≠ some 39; decide, by decide⟩
    by_cases h3 : c.toNat < 32
    · have e : escB 39 c = signB c := by unfold escB; rw [if_neg (by simp [h1, h2]), if_pos h3]
      rw [e]; unfold signB; simp
    · have e : escB 39 c = [c] := by unfold escB; rw [if_neg (by simp [h1, h2]), if_neg h3]
      rw [e]; simp [h1]
theorem txtF_step {f : Nat} {l : List UInt8} {x : Int} {n : Nat} {t : List UInt8} {k : Nat} (hh : l.head? ≠ some 39) (hl : l ≠ []) (hc : charT 39 l = some (x, n)) (ht : txtF f 39 (l.drop n) = some (t, k)) : txtF (f + 1) 39 l = some (putV x ++ t, n + k) := by
  match l, hl with
  | c :: r, _ =>
    unfold txtF
    simp only
    rw [if_neg (by intro e; rw [e] at hh; simp at hh), hc]
    simp only
    rw [ht]; rfl
set_option maxRecDepth 100000 in
theorem txt_back : ∀ (m : Nat) (s : List UInt8), s.length ≤ m → runU 0 s = 0 → ∀ (f : Nat) (q : List UInt8), s.length < f → txtF f 39 (s.flatMap (escB 39) ++ 39 :: q) = some (s, (s.flatMap (escB 39)).length + 1)
  | m, [], _, _, f, q, hf => by
    obtain ⟨f, rfl⟩ : ∃ k, f = k + 1 := ⟨f - 1, by simp at hf; omega⟩
    show txtF (f + 1) 39 (39 :: q) = _
    unfold txtF
    simp
  | 0, c :: r, hm, _, _, _, _ => absurd hm (by simp)
  | m + 1, b :: s0, hm, h, f, q, hf => by
    obtain ⟨f, rfl⟩ : ∃ k, f = k + 1 := ⟨f - 1, by omega⟩
    rcases right_cases h (by simp) with ⟨c, r, e, hc, hr⟩ | ⟨p, r, x, e, hp, hp2, hr, hx, hsc⟩
    · rw [e] at hm hf ⊢
      simp only [List.length_cons] at hm hf
      obtain ⟨k1, k2, k3, k4⟩ := char_asc c hc (r.flatMap (escB 39) ++ 39 :: q)
      rw [List.flatMap_cons, List.append_assoc]
      have ih := txt_back m r (by omega) hr f q (by omega)
      rw [txtF_step k3 (by intro e; rw [e] at k3; rw [List.append_eq_nil_iff] at e; rw [e.1] at k4; simp at k4) k1 (by rw [List.drop_left' rfl]; exact ih), k2]
      rw [List.length_append, Nat.add_assoc]; rfl
    · rw [e] at hm hf ⊢
      rw [List.length_append] at hm hf
      rw [List.flatMap_append, flat_high p hp, List.append_assoc]
      have ih := txt_back m r (by omega) hr f q (by omega)
      match p, hp2 with
      | b0 :: b1 :: p2, _ =>
        have hb0 := hp b0 (by simp)
        have hch : charT 39 ((b0 :: b1 :: p2) ++ (r.flatMap (escB 39) ++ 39 :: q)) = some (x, (b0 :: b1 :: p2).length) := by
          have hs := hsc (r.flatMap (escB 39) ++ 39 :: q)
          show charT 39 (b0 :: (b1 :: p2 ++ (r.flatMap (escB 39) ++ 39 :: q))) = _
          unfold charT
          simp only
          rw [if_neg (by omega), if_pos (by intro e; rw [e] at hb0; revert hb0; decide)]
          rw [show b0 :: (b1 :: p2 ++ (r.flatMap (escB 39) ++ 39 :: q)) = (b0 :: b1 :: p2) ++ (r.flatMap (escB 39) ++ 39 :: q) from rfl, hs]
          simp only
          rw [if_neg (by simp; omega)]
          rfl
        rw [txtF_step (by intro e; simp at e; rw [e] at hb0; revert hb0; decide) (by simp) hch (by rw [List.drop_left' rfl]; exact ih), hx]
        rw [List.length_append, Nat.add_assoc]
theorem esc_ge (s : List UInt8) : s.length ≤ (s.flatMap (escB 39)).length := by
  induction s with
  | nil => exact Nat.le_refl _
  | cons c r ih =>
    have : 1 ≤ (escB 39 c).length := by unfold escB signB; (repeat' split) <;> simp
    rw [List.flatMap_cons, List.length_append, List.length_cons]; omega
/-- A text in single marks is one token. -/
theorem tok_txt (s q : List UInt8) (h : runU 0 s = 0) : tokT (txtL 39 s ++ q) = .ok (4, s, 0, (txtL 39 s).length) := by
  have e : txtL 39 s ++ q = 39 :: (s.flatMap (escB 39) ++ 39 :: q) := by unfold txtL; simp
  have hb := txt_back s.length s (Nat.le_refl _) h ((s.flatMap (escB 39) ++ 39 :: q).length + 1) q (by have := esc_ge s; rw [List.length_append]; omega)
  rw [e]
  unfold tokT
  simp only
  rw [if_pos (by simp), hb]
  unfold txtL
  simp

end Go.Proofs.YtpcbcodmocmilaaGreatDoor
