/- qlex on byte lists: how long tokens are; plain. -/
import Derived.Test.YtpcbcodmocmilaaGreatDoorG02
namespace Go.Proofs.YtpcbcodmocmilaaGreatDoor

theorem ite_P {α : Type} {c : Prop} [Decidable c] {a b : α} (Q : α → Prop) (ha : c → Q a) (hb : ¬ c → Q b) : Q (if c then a else b) := by
  by_cases h : c
  · rw [if_pos h]; exact ha h
  · rw [if_neg h]; exact hb h
def sOK (n : Nat) (x : Int × Int) : Prop := 0 ≤ x.2 ∧ x.2.toNat ≤ n ∧ 0 ≤ x.1
theorem sOK_no (n : Nat) : sOK n (0, 0) := ⟨by simp, by simp, by simp⟩
theorem sOK_mk {n : Nat} {a b : Int} (h1 : 0 ≤ a) (h2 : 0 ≤ b) (h3 : b.toNat ≤ n) : sOK n (a, b) := ⟨h2, h3, h1⟩
theorem scalV_ok (l : List UInt8) : sOK l.length (scalV l) := by
  cases l with
  | nil => exact sOK_no 0
  | cons b0 r =>
    unfold scalV
    refine ite_P (sOK _) (fun h => sOK_mk (by omega) (by omega) (by simp)) (fun h => ?_)
    refine ite_P (sOK _) (fun h => ?_) (fun h => ?_)
    · cases r with
      | nil => exact sOK_no _
      | cons b1 r => exact ite_P (sOK _) (fun h => sOK_mk (by omega) (by omega) (by simp)) (fun h => sOK_no _)
    · refine ite_P (sOK _) (fun h => ?_) (fun h => ?_)
      · cases r with
        | nil => exact sOK_no _
        | cons b1 r =>
          cases r with
          | nil => exact sOK_no _
          | cons b2 r => exact ite_P (sOK _) (fun h => sOK_mk (by have := h.1; split at this <;> omega) (by omega) (by simp)) (fun h => sOK_no _)
      · refine ite_P (sOK _) (fun h => ?_) (fun h => sOK_no _)
        cases r with
        | nil => exact sOK_no _
        | cons b1 r =>
          cases r with
          | nil => exact sOK_no _
          | cons b2 r =>
            cases r with
            | nil => exact sOK_no _
            | cons b3 r => exact ite_P (sOK _) (fun h => sOK_mk (by have := h.1; split at this <;> omega) (by omega) (by simp)) (fun h => sOK_no _)
theorem scalV_len (l : List UInt8) : 0 ≤ (scalV l).2 ∧ (scalV l).2.toNat ≤ l.length ∧ 0 ≤ (scalV l).1 := scalV_ok l
theorem letL_le (l : List UInt8) : letL l ≤ l.length := by
  unfold letL; split
  · exact (scalV_len l).2.1
  · omega
theorem letR_le (l : List UInt8) : letR l ≤ l.length := by
  unfold letR; split
  · cases l with
    | nil => simp
    | cons c r => simp only; split <;> simp
  · exact letL_le l
theorem namF_le : ∀ (f : Nat) (l : List UInt8), namF f l ≤ l.length
  | 0, _ => by simp [namF]
  | f + 1, l => by
    unfold namF; split
    · omega
    · have h1 := letR_le l
      have h2 := namF_le f (l.drop (letR l))
      rw [List.length_drop] at h2; omega
theorem nameL_le (l : List UInt8) : nameL l ≤ l.length := by
  unfold nameL; split
  · omega
  · have h1 := letL_le l
    have h2 := namF_le l.length (l.drop (letL l))
    rw [List.length_drop] at h2; omega
theorem charT_len (mark : UInt8) (l : List UInt8) (x : Int) (n : Nat) (h : charT mark l = some (x, n)) : 0 < n ∧ n ≤ l.length := by
  unfold charT at h
  match l with
  | [] => simp at h
  | c :: r =>
    simp only at h
    split at h
    · cases h
    · split at h
      · have hs := scalV_len (c :: r)
        split at h
        · cases h
        · simp only [Option.some.injEq, Prod.mk.injEq] at h
          omega
      · match r with
        | [] => simp at h
        | d :: r2 =>
          simp only at h
          split at h
          · match hr : r2 with
            | a1 :: a2 :: a3 :: a4 :: r3 =>
              revert h
              cases hu : unitV (a1 :: a2 :: a3 :: a4 :: r3) with
              | none => intro h; cases h
              | some a =>
                simp only
                intro h
                split at h
                · simp only [Option.some.injEq, Prod.mk.injEq] at h; simp; omega
                · split at h
                  · cases h
                  · split at h
                    · match hr3 : r3 with
                      | e1 :: e2 :: e3 :: e4 :: e5 :: e6 :: r4 =>
                        revert h
                        cases unitV ((a1 :: a2 :: a3 :: a4 :: e1 :: e2 :: e3 :: e4 :: e5 :: e6 :: r4).drop 6) with
                        | none => intro h; cases h
                        | some b =>
                          simp only
                          intro h
                          split at h
                          · simp only [Option.some.injEq, Prod.mk.injEq] at h; simp; omega
                          · cases h
                      | [] | [_] | [_, _] | [_, _, _] | [_, _, _, _] | [_, _, _, _, _] => simp [unitV] at h
                    · cases h
            | [] | [_] | [_, _] | [_, _, _] => simp [unitV] at h
          · cases he : escV mark d with
            | none => rw [he] at h; cases h
            | some e => rw [he] at h; simp only [Option.map_some, Option.some.injEq, Prod.mk.injEq] at h; simp; omega
theorem txtF_len : ∀ (f : Nat) (mark : UInt8) (l : List UInt8) (t : List UInt8) (n : Nat), txtF f mark l = some (t, n) → 0 < n ∧ n ≤ l.length
  | 0, _, _, _, _, h => by simp [txtF] at h
  | f + 1, mark, l, t, n, h => by
    unfold txtF at h
    match l with
    | [] => simp at h
    | c :: r =>
      simp only at h
      split at h
      · simp only [Option.some.injEq, Prod.mk.injEq] at h; simp; omega
      · cases hc : charT mark (c :: r) with
        | none => rw [hc] at h; cases h
        | some xn =>
          obtain ⟨x, m⟩ := xn
          rw [hc] at h
          simp only at h
          have h1 := charT_len mark (c :: r) x m hc
          cases ht : txtF f mark ((c :: r).drop m) with
          | none => rw [ht] at h; cases h
          | some tk =>
            obtain ⟨t', k⟩ := tk
            rw [ht] at h
            simp only [Option.map_some, Option.some.injEq, Prod.mk.injEq] at h
            have h2 := txtF_len f mark _ t' k ht
            rw [List.length_drop] at h2
            omega

theorem num_aux (P Q : Prop) [Decidable P] [Decidable Q] (a : Int) (m n : Nat) (v : Int) (h : (if P then (.error 3 : Except Int (Int × Nat)) else if Q then .error 6 else .ok (a, m)) = .ok (v, n)) : ¬ P ∧ ¬ Q ∧ a = v ∧ m = n := by
  by_cases hp : P
  · rw [if_pos hp] at h; cases h
  · rw [if_neg hp] at h
    by_cases hq : Q
    · rw [if_pos hq] at h; cases h
    · rw [if_neg hq] at h
      simp only [Except.ok.injEq, Prod.mk.injEq] at h
      exact ⟨hp, hq, h.1, h.2⟩
theorem numT_len (l : List UInt8) (v : Int) (n : Nat) (h : numT l = .ok (v, n)) : 0 < n ∧ n ≤ l.length := by
  unfold numT at h
  obtain ⟨h1, _, _, h3⟩ := num_aux _ _ _ _ _ _ h
  have h2 : digN (l.drop (if hd l 45 then 1 else 0)) ≠ 0 := fun e => h1 (.inl e)
  have hd' := digN_le (l.drop (if hd l 45 then 1 else 0))
  rw [List.length_drop] at hd'
  omega
theorem signs_pos : ∀ x ∈ signsL, 0 < x.length := by decide
/-- What is known of a token. -/
def tokOK (l : List UInt8) (k : Int) (t : List UInt8) (n : Nat) : Prop := 0 < n ∧ n ≤ l.length ∧ ((k = 1 ∨ k = 2) → t = l.take n ∧ t.length = n)
theorem tokT_ok (l : List UInt8) (k : Int) (t : List UInt8) (v : Int) (n : Nat) (h : tokT l = .ok (k, t, v, n)) : tokOK l k t n := by
  unfold tokT at h
  cases l with
  | nil => cases h
  | cons c r =>
    simp only at h
    split at h
    · cases ht : txtF (r.length + 1) c r with
      | none => rw [ht] at h; cases h
      | some tn =>
        obtain ⟨t', m⟩ := tn
        rw [ht] at h
        simp only [Except.ok.injEq, Prod.mk.injEq] at h
        have h1 := txtF_len _ _ _ _ _ ht
        obtain ⟨rfl, rfl, rfl, rfl⟩ := h
        exact ⟨by omega, by simp; omega, by omega⟩
    · split at h
      · cases hn : numT (c :: r) with
        | error e => rw [hn] at h; cases h
        | ok vn =>
          obtain ⟨v', m⟩ := vn
          rw [hn] at h
          simp only [Except.ok.injEq, Prod.mk.injEq] at h
          have h1 := numT_len _ _ _ hn
          obtain ⟨rfl, rfl, rfl, rfl⟩ := h
          exact ⟨h1.1, h1.2, by omega⟩
      · split at h
        · simp only [Except.ok.injEq, Prod.mk.injEq] at h
          obtain ⟨rfl, rfl, rfl, rfl⟩ := h
          rename_i hp
          have hl := nameL_le (c :: r)
          exact ⟨hp, hl, fun _ => ⟨rfl, by rw [List.length_take]; omega⟩⟩
        · cases hs : signsL.find? (fun x => (c :: r).take x.length == x) with
          | none => rw [hs] at h; cases h
          | some x =>
            rw [hs] at h
            simp only [Except.ok.injEq, Prod.mk.injEq] at h
            obtain ⟨rfl, rfl, rfl, rfl⟩ := h
            have hx := List.find?_some hs
            have hm := signs_pos x (List.mem_of_find?_eq_some hs)
            have he : (c :: r).take x.length = x := by simpa using hx
            have hle : x.length ≤ (c :: r).length := by
              have := congrArg List.length he
              rw [List.length_take] at this; omega
            exact ⟨hm, hle, fun _ => ⟨he.symm, rfl⟩⟩

end Go.Proofs.YtpcbcodmocmilaaGreatDoor
