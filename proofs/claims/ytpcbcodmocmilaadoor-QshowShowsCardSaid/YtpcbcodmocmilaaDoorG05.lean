/- G05: Qp, Uc joined. -/
import Derived.Test.YtpcbcodmocmilaaDoorQb
import Derived.Test.YtpcbcodmocmilaaDoorG03
namespace Go.Proofs.YtpcbcodmocmilaaDoor
open Go.RowKit
/- Queries read, plain: behind a fault nothing is read (no word of a dump). -/
section

/-- Behind a fault P reads nothing. -/
def BadP (P : Nat → PSt → ExprT × PSt) : Prop := ∀ d t, t.fe ≠ 0 → (P d t).2 = t
section
variable {E : Int} {t : PSt}
theorem kind_bad (h : t.fe ≠ 0) : kindS t = 0 := by unfold kindS; rw [hdT_bad h]; rfl
theorem openS_bad (d : Nat) (h : t.fe ≠ 0) : openS E d t = t := by
  unfold openS
  split
  · rw [failS_bad h, nextS_bad h]
  · exact nextS_bad h
theorem numS_bad (h : t.fe ≠ 0) : numS E t = (0, false, t) := by unfold numS; rw [kind_bad h]; rfl
theorem isSeg_bad (h : t.fe ≠ 0) : isSeg t = false := by unfold isSeg; rw [isS_bad _ h, isS_bad _ h, isS_bad _ h]; rfl
theorem isPath_bad (h : t.fe ≠ 0) : isPath t = false := by unfold isPath; rw [isS_bad _ h, isS_bad _ h]; rfl
theorem litS_bad (h : t.fe ≠ 0) : litS t = none := by unfold litS; rw [kind_bad h]; rfl
theorem opS_bad (h : t.fe ≠ 0) : opS t = -1 := by unfold opS; rw [kind_bad h]; rfl
end
section
variable {E : Int} {P : Nat → PSt → ExprT × PSt} {d : Nat} {t : PSt}
theorem segsL_bad (f : Nat) (h : t.fe ≠ 0) : segsL E P d f t = ([], t) := by
  cases f with
  | zero => rfl
  | succ f => rw [segsL, isSeg_bad h]; rfl
theorem pathF_bad (h : t.fe ≠ 0) : pathF E P d t = (path0, t) := by
  unfold pathF
  rw [nextS_bad h, segsL_bad _ h, isS_bad _ h]
  rfl
theorem selF_bd (h : t.fe ≠ 0) : selF E P d t = (sel0, t) := by
  unfold selF
  rw [kind_bad h, isS_bad _ h, isS_bad _ h, isS_bad _ h, formS_bad h]
  rfl
theorem selsL_bad (f : Nat) (h : t.fe ≠ 0) : selsL E P d f t = ([], t) := by
  cases f with
  | zero => rfl
  | succ f => rw [selsL, isS_bad _ h]; rfl
theorem sideF_bad (h : t.fe ≠ 0) : sideF E P d t = (side0, t) := by
  unfold sideF
  rw [isPath_bad h, litS_bad h, formS_bad h]
  rfl
theorem cmp2_bad (a : SideT) (h : t.fe ≠ 0) : cmp2 E P d a t = (tstE a.p, t) := by
  unfold cmp2
  rw [opS_bad h, if_pos (by decide)]
  split
  · rw [formS_bad h]
  · rfl
theorem cmpF_bad (h : t.fe ≠ 0) : cmpF E P d t = (tstE path0, t) := by
  unfold cmpF
  rw [sideF_bad h, cmp2_bad _ h]
  rfl
theorem notF_bad (m : Bool) (h : t.fe ≠ 0) : (notF m E P d t).2 = t := by
  unfold notF
  rw [isS_bad _ h, isPath_bad h, formS_bad h]
  rfl
theorem oneF_bad (m : Bool) (h : t.fe ≠ 0) : (oneF m E P d t).2 = t := by
  unfold oneF
  rw [isS_bad _ h, isS_bad _ h, cmpF_bad h]
  rfl
end
theorem listL_bad {E : Int} {sg : List UInt8} {F : PSt → ExprT × PSt} {t : PSt} (f : Nat) (h : t.fe ≠ 0) : listL E sg F f t = ([], t) := by
  cases f with
  | zero => rfl
  | succ f => rw [listL, isS_bad _ h]; rfl
theorem listF_bad {E : Int} {sg : List UInt8} {k : Int} {F : PSt → ExprT × PSt} (hF : ∀ t, t.fe ≠ 0 → (F t).2 = t) (t : PSt) (h : t.fe ≠ 0) : (listF E sg k F t).2 = t := by
  unfold listF
  rw [hF t h, listL_bad _ h]
theorem andF_bad {E : Int} {P : Nat → PSt → ExprT × PSt} {d : Nat} (m : Bool) (t : PSt) (h : t.fe ≠ 0) : (andF m E P d t).2 = t := listF_bad (fun _ h => oneF_bad m h) t h
theorem orF_bad {E : Int} {P : Nat → PSt → ExprT × PSt} (m : Bool) : BadP (orF m E P) := fun _ t h => listF_bad (fun t h => andF_bad m t h) t h
theorem orS_bad (m : Bool) (E : Int) : ∀ n, BadP (orS m E n)
  | 0 => fun _ _ _ => rfl
  | _ + 1 => orF_bad m
theorem andF_le {m : Bool} {E : Int} {P : Nat → PSt → ExprT × PSt} (hP : LeP P) (d : Nat) (t : PSt) : (andF m E P d t).2.toks.length ≤ t.toks.length := listF_le (fun t => oneF_le hP d m t) t

end
/- qlex on byte lists: how long tokens are; plain. -/
section

theorem ite_P {α : Type} {c : Prop} [Decidable c] {a b : α} (Q : α → Prop) (ha : c → Q a) (hb : ¬ c → Q b) : Q (if c then a else b) := by
  by_cases h : c
  · rw [if_pos h]; exact ha h
  · rw [if_neg h]; exact hb h
def sOK (n : Nat) (x : Int × Int) : Prop := 0 ≤ x.2 ∧ x.2.toNat ≤ n ∧ 0 ≤ x.1
theorem sOK_no (n : Nat) : sOK n (0, 0) := ⟨by simp, by simp, by simp⟩
theorem sOK_mk {n : Nat} {a b : Int} (h1 : 0 ≤ a) (h2 : 0 ≤ b) (h3 : b.toNat ≤ n) : sOK n (a, b) := ⟨h2, h3, h1⟩
theorem scalV_ok (l : List UInt8) : sOK l.length (scalV l) := by
  cases l with
  | nil => exact sOK_no 0
  | cons b0 r =>
    unfold scalV
    refine ite_P (sOK _) (fun h => sOK_mk (by omega) (by omega) (by simp)) (fun h => ?_)
    refine ite_P (sOK _) (fun h => ?_) (fun h => ?_)
    · cases r with
      | nil => exact sOK_no _
      | cons b1 r => exact ite_P (sOK _) (fun h => sOK_mk (by omega) (by omega) (by simp)) (fun h => sOK_no _)
    · refine ite_P (sOK _) (fun h => ?_) (fun h => ?_)
      · cases r with
        | nil => exact sOK_no _
        | cons b1 r =>
          cases r with
          | nil => exact sOK_no _
          | cons b2 r => exact ite_P (sOK _) (fun h => sOK_mk (by have := h.1; split at this <;> omega) (by omega) (by simp)) (fun h => sOK_no _)
      · refine ite_P (sOK _) (fun h => ?_) (fun h => sOK_no _)
        cases r with
        | nil => exact sOK_no _
        | cons b1 r =>
          cases r with
          | nil => exact sOK_no _
          | cons b2 r =>
            cases r with
            | nil => exact sOK_no _
            | cons b3 r => exact ite_P (sOK _) (fun h => sOK_mk (by have := h.1; split at this <;> omega) (by omega) (by simp)) (fun h => sOK_no _)
theorem scalV_len (l : List UInt8) : 0 ≤ (scalV l).2 ∧ (scalV l).2.toNat ≤ l.length ∧ 0 ≤ (scalV l).1 := scalV_ok l
theorem letL_le (l : List UInt8) : letL l ≤ l.length := by
  unfold letL; split
  · exact (scalV_len l).2.1
  · omega
theorem letR_le (l : List UInt8) : letR l ≤ l.length := by
  unfold letR; split
  · cases l with
    | nil => simp
    | cons c r => simp only; split <;> simp
  · exact letL_le l
theorem namF_le : ∀ (f : Nat) (l : List UInt8), namF f l ≤ l.length
  | 0, _ => by simp [namF]
  | f + 1, l => by
    unfold namF; split
    · omega
    · have h1 := letR_le l
      have h2 := namF_le f (l.drop (letR l))
      rw [List.length_drop] at h2; omega
theorem nameL_le (l : List UInt8) : nameL l ≤ l.length := by
  unfold nameL; split
  · omega
  · have h1 := letL_le l
    have h2 := namF_le l.length (l.drop (letL l))
    rw [List.length_drop] at h2; omega
theorem charT_len (mark : UInt8) (l : List UInt8) (x : Int) (n : Nat) (h : charT mark l = some (x, n)) : 0 < n ∧ n ≤ l.length := by
  unfold charT at h
  match l with
  | [] => simp at h
  | c :: r =>
    simp only at h
    split at h
    · cases h
    · split at h
      · have hs := scalV_len (c :: r)
        split at h
        · cases h
        · simp only [Option.some.injEq, Prod.mk.injEq] at h
          omega
      · match r with
        | [] => simp at h
        | d :: r2 =>
          simp only at h
          split at h
          · match hr : r2 with
            | a1 :: a2 :: a3 :: a4 :: r3 =>
              revert h
              cases hu : unitV (a1 :: a2 :: a3 :: a4 :: r3) with
              | none => intro h; cases h
              | some a =>
                simp only
                intro h
                split at h
                · simp only [Option.some.injEq, Prod.mk.injEq] at h; simp; omega
                · split at h
                  · cases h
                  · split at h
                    · match hr3 : r3 with
                      | e1 :: e2 :: e3 :: e4 :: e5 :: e6 :: r4 =>
                        revert h
                        cases unitV ((a1 :: a2 :: a3 :: a4 :: e1 :: e2 :: e3 :: e4 :: e5 :: e6 :: r4).drop 6) with
                        | none => intro h; cases h
                        | some b =>
                          simp only
                          intro h
                          split at h
                          · simp only [Option.some.injEq, Prod.mk.injEq] at h; simp; omega
                          · cases h
                      | [] | [_] | [_, _] | [_, _, _] | [_, _, _, _] | [_, _, _, _, _] => simp [unitV] at h
                    · cases h
            | [] | [_] | [_, _] | [_, _, _] => simp [unitV] at h
          · cases he : escV mark d with
            | none => rw [he] at h; cases h
            | some e => rw [he] at h; simp only [Option.map_some, Option.some.injEq, Prod.mk.injEq] at h; simp; omega
theorem txtF_len : ∀ (f : Nat) (mark : UInt8) (l : List UInt8) (t : List UInt8) (n : Nat), txtF f mark l = some (t, n) → 0 < n ∧ n ≤ l.length
  | 0, _, _, _, _, h => by simp [txtF] at h
  | f + 1, mark, l, t, n, h => by
    unfold txtF at h
    match l with
    | [] => simp at h
    | c :: r =>
      simp only at h
      split at h
      · simp only [Option.some.injEq, Prod.mk.injEq] at h; simp; omega
      · cases hc : charT mark (c :: r) with
        | none => rw [hc] at h; cases h
        | some xn =>
          obtain ⟨x, m⟩ := xn
          rw [hc] at h
          simp only at h
          have h1 := charT_len mark (c :: r) x m hc
          cases ht : txtF f mark ((c :: r).drop m) with
          | none => rw [ht] at h; cases h
          | some tk =>
            obtain ⟨t', k⟩ := tk
            rw [ht] at h
            simp only [Option.map_some, Option.some.injEq, Prod.mk.injEq] at h
            have h2 := txtF_len f mark _ t' k ht
            rw [List.length_drop] at h2
            omega

theorem num_aux (P Q : Prop) [Decidable P] [Decidable Q] (a : Int) (m n : Nat) (v : Int) (h : (if P then (.error 3 : Except Int (Int × Nat)) else if Q then .error 6 else .ok (a, m)) = .ok (v, n)) : ¬ P ∧ ¬ Q ∧ a = v ∧ m = n := by
  by_cases hp : P
  · rw [if_pos hp] at h; cases h
  · rw [if_neg hp] at h
    by_cases hq : Q
    · rw [if_pos hq] at h; cases h
    · rw [if_neg hq] at h
      simp only [Except.ok.injEq, Prod.mk.injEq] at h
      exact ⟨hp, hq, h.1, h.2⟩
theorem numT_len (l : List UInt8) (v : Int) (n : Nat) (h : numT l = .ok (v, n)) : 0 < n ∧ n ≤ l.length := by
  unfold numT at h
  obtain ⟨h1, _, _, h3⟩ := num_aux _ _ _ _ _ _ h
  have h2 : digN (l.drop (if hd l 45 then 1 else 0)) ≠ 0 := fun e => h1 (.inl e)
  have hd' := digN_le (l.drop (if hd l 45 then 1 else 0))
  rw [List.length_drop] at hd'
  omega
theorem signs_pos : ∀ x ∈ signsL, 0 < x.length := by decide
/-- What is known of a token. -/
def tokOK (l : List UInt8) (k : Int) (t : List UInt8) (n : Nat) : Prop := 0 < n ∧ n ≤ l.length ∧ ((k = 1 ∨ k = 2) → t = l.take n ∧ t.length = n)
theorem tokT_ok (l : List UInt8) (k : Int) (t : List UInt8) (v : Int) (n : Nat) (h : tokT l = .ok (k, t, v, n)) : tokOK l k t n := by
  unfold tokT at h
  cases l with
  | nil => cases h
  | cons c r =>
    simp only at h
    split at h
    · cases ht : txtF (r.length + 1) c r with
      | none => rw [ht] at h; cases h
      | some tn =>
        obtain ⟨t', m⟩ := tn
        rw [ht] at h
        simp only [Except.ok.injEq, Prod.mk.injEq] at h
        have h1 := txtF_len _ _ _ _ _ ht
        obtain ⟨rfl, rfl, rfl, rfl⟩ := h
        exact ⟨by omega, by simp; omega, by omega⟩
    · split at h
      · cases hn : numT (c :: r) with
        | error e => rw [hn] at h; cases h
        | ok vn =>
          obtain ⟨v', m⟩ := vn
          rw [hn] at h
          simp only [Except.ok.injEq, Prod.mk.injEq] at h
          have h1 := numT_len _ _ _ hn
          obtain ⟨rfl, rfl, rfl, rfl⟩ := h
          exact ⟨h1.1, h1.2, by omega⟩
      · split at h
        · simp only [Except.ok.injEq, Prod.mk.injEq] at h
          obtain ⟨rfl, rfl, rfl, rfl⟩ := h
          rename_i hp
          have hl := nameL_le (c :: r)
          exact ⟨hp, hl, fun _ => ⟨rfl, by rw [List.length_take]; omega⟩⟩
        · cases hs : signsL.find? (fun x => (c :: r).take x.length == x) with
          | none => rw [hs] at h; cases h
          | some x =>
            rw [hs] at h
            simp only [Except.ok.injEq, Prod.mk.injEq] at h
            obtain ⟨rfl, rfl, rfl, rfl⟩ := h
            have hx := List.find?_some hs
            have hm := signs_pos x (List.mem_of_find?_eq_some hs)
            have he : (c :: r).take x.length = x := by simpa using hx
            have hle : x.length ≤ (c :: r).length := by
              have := congrArg List.length he
              rw [List.length_take] at this; omega
            exact ⟨hm, hle, fun _ => ⟨he.symm, rfl⟩⟩

end

end Go.Proofs.YtpcbcodmocmilaaDoor
