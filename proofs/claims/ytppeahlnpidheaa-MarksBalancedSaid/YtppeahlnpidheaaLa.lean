/- Plain: what stands in a string bears no marks. -/
import Derived.Test.YtppeahlnpidheaaKf
namespace Go.Proofs.Ytppeahlnpidheaa

theorem putI_tail (c : Int) (i : Nat) (x : Int) (hi : 1 ≤ i) (h : (putI c)[i]? = some x) : 128 ≤ x ∧ x < 192 := by
  unfold putI at h
  repeat' split at h
  · simp at h
  · match i, hi, h with
    | i + 1, _, h => simp at h
  · match i, hi, h with
    | 1, _, h => simp at h; omega
    | i + 2, _, h => simp at h
  · match i, hi, h with
    | 1, _, h => simp at h; omega
    | 2, _, h => simp at h; omega
    | i + 3, _, h => simp at h
  · match i, hi, h with
    | 1, _, h => simp at h; omega
    | 2, _, h => simp at h; omega
    | 3, _, h => simp at h; omega
    | i + 4, _, h => simp at h

theorem extract0_list (s : ByteArray) (n : Nat) : (s.extract 0 n).data.toList = s.data.toList.take n := by
  simp [ByteArray.data_extract, List.extract_eq_take_drop]

/-- The bytes behind a scalar's first one are 128 to 191. -/
theorem scal_tail (l : List UInt8) (i : Nat) (hi : 1 ≤ i) (hk : i < scalN l) : ∃ x, l[i]? = some x ∧ 128 ≤ x.toNat := by
  have key : ∀ (c : Int) (n : Nat), i < n → strOfNums (putI c) = (⟨l.toArray⟩ : ByteArray).extract 0 n → n ≤ l.length → ∃ x, l[i]? = some x ∧ 128 ≤ x.toNat := by
    intro c n hin h hn
    have h1 : (putI c).map (fun n => UInt8.ofNat n.toNat) = l.take n := by
      have := congrArg (fun b : ByteArray => b.data.toList) h
      simpa [strOfNums_data, extract0_list] using this
    have h2 := congrArg (fun q => q[i]?) h1
    simp only [List.getElem?_map, List.getElem?_take_of_lt hin] at h2
    cases hp : (putI c)[i]? with
    | none => rw [hp] at h2; rw [List.getElem?_eq_getElem (by omega)] at h2; simp at h2
    | some x =>
      rw [hp] at h2
      obtain ⟨a, b⟩ := putI_tail c i x hi hp
      refine ⟨_, h2.symm, ?_⟩
      have hx : x.toNat < 256 := by omega
      simp [UInt8.toNat_ofNat, Nat.mod_eq_of_lt hx]; omega
  unfold scalN scalM at hk
  have hsz : (⟨l.toArray⟩ : ByteArray).size = l.length := by simp [ByteArray.size]
  rw [hsz] at hk
  repeat' split at hk
  all_goals first
    | (exfalso; simp at hk; done)
    | (exfalso; simp at hk; omega)
    | (refine key _ _ (by simpa using hk) ‹_› (by omega))

theorem scalN_le (l : List UInt8) : scalN l ≤ l.length := by
  have := scalM_bd ⟨l.toArray⟩
  have hsz : (⟨l.toArray⟩ : ByteArray).size = l.length := by simp [ByteArray.size]
  rw [hsz] at this; unfold scalN; omega

/-- Bytes that end no string and begin no escape are gone through. -/
theorem mk_skip (n : Nat) : ∀ (l : List UInt8) (p : Nat), n ≤ l.length → (∀ i, i < n → ∀ x, l[i]? = some x → x ≠ 34 ∧ x ≠ 92) → ∀ t, mk 1 (l ++ t) p = mk 1 (l.drop n ++ t) (p + n) := by
  induction n with
  | zero => intro l p _ _ t; simp
  | succ n ih =>
    intro l p hn h t
    cases l with
    | nil => simp at hn
    | cons c r =>
      have hc := h 0 (by omega) c rfl
      rw [List.cons_append, mk_in_other _ _ _ hc.2 hc.1, ih r (p + 1) (by simpa using hn) (fun i hi x hx => h (i + 1) (by omega) x (by simpa using hx)) t]
      simp [Nat.add_assoc, Nat.add_comm 1 n]

theorem hex_plain {c : UInt8} (h : hexU c = true) : c ≠ 34 ∧ c ≠ 92 := by
  constructor
  · rintro rfl; revert h; decide
  · rintro rfl; revert h; decide

theorem esc_skip {r : List UInt8} {n : Nat} (h : escL r = some n) (p : Nat) (t : List UInt8) : mk 2 (r ++ t) p = mk 1 (r.drop n ++ t) (p + n) := by
  cases r with
  | nil => simp [escL] at h
  | cons c r =>
    have h2 : mk 2 ((c :: r) ++ t) p = mk 1 (r ++ t) (p + 1) := by simp [mk]
    rw [h2]
    simp only [escL] at h
    split at h
    · cases h; simp
    · split at h
      · split at h
        · rename_i hh
          cases h
          have hl := hh.1
          rw [mk_skip 4 r (p + 1) (by simp at hl; omega) (fun i hi x hx => hex_plain (by
            have hm : x ∈ r.take 4 := by
              apply List.mem_of_getElem? (i := i)
              rw [List.getElem?_take_of_lt hi]; exact hx
            exact List.all_eq_true.1 hh.2 x hm)) t]
          simp [Nat.add_assoc]
        · cases h
      · cases h

theorem strB_mk (l : List UInt8) : ∀ n, strB l = some n → ∀ p t, n ≤ l.length ∧ mk 1 (l ++ t) p = mk 0 (l.drop n ++ t) (p + n) := by
  fun_induction strB l with
  | case1 => intro n h; cases h
  | case2 r => intro n h p t; cases h; simp [mk]
  | case3 => intro n h; cases h
  | case4 r n0 hn h1 h2 ih =>
    intro n h p t
    cases hs : strB (r.drop n0) with
    | none => rw [hs] at h; cases h
    | some m =>
      rw [hs] at h
      simp only [Option.map_some, Option.some.injEq] at h
      have := ih m hs (p + 1 + n0) t
      have hb := esc_bd hn
      subst h
      refine ⟨by simp at this ⊢; omega, ?_⟩
      have e : mk 1 ((92 :: r) ++ t) p = mk 2 (r ++ t) (p + 1) := by simp [mk]
      rw [e, esc_skip hn, this.2, List.drop_drop]
      rw [show m + (n0 + 1) = (n0 + m) + 1 by omega]
      simp only [List.drop_succ_cons]
      congr 1; omega
  | case5 => intro n h; cases h
  | case6 => intro n h; cases h
  | case7 c r h1 h2 h3 h4 ih =>
    intro n h p t
    cases hs : strB ((c :: r).drop (scalN (c :: r))) with
    | none => rw [hs] at h; cases h
    | some m =>
      rw [hs] at h
      simp only [Option.map_some, Option.some.injEq] at h
      have hle := scalN_le (c :: r)
      have := ih m hs (p + scalN (c :: r)) t
      subst h
      refine ⟨by have := this.1; simp only [List.length_drop] at this; omega, ?_⟩
      rw [mk_skip (scalN (c :: r)) (c :: r) p hle (fun i hi x hx => ?_) t, this.2, List.drop_drop, Nat.add_comm m, Nat.add_assoc, Nat.add_comm _ m]
      cases i with
      | zero => simp at hx; subst hx; exact ⟨h1, h3⟩
      | succ i =>
        obtain ⟨y, hy, hy2⟩ := scal_tail (c :: r) (i + 1) (by omega) hi
        rw [hx] at hy; cases hy
        constructor <;> (rintro rfl; revert hy2; decide)

theorem strL_mk (l : List UInt8) (n : Nat) (h : strL l = some n) (p : Nat) (t : List UInt8) : n ≤ l.length ∧ mk 0 (l ++ t) p = mk 0 (l.drop n ++ t) (p + n) := by
  cases l with
  | nil => cases h
  | cons c r =>
    simp only [strL] at h
    split at h
    · rename_i hc
      subst hc
      cases hs : strB r with
      | none => rw [hs] at h; cases h
      | some m =>
        rw [hs] at h
        simp only [Option.map_some, Option.some.injEq] at h
        subst h
        have := strB_mk r m hs (p + 1) t
        refine ⟨by simp; omega, ?_⟩
        have e : mk 0 ((34 :: r) ++ t) p = mk 1 (r ++ t) (p + 1) := by simp [mk]
        rw [e, this.2]
        simp only [List.drop_succ_cons]
        congr 1; omega
    · cases h

/-- MarksStrings' plain law. -/
theorem marks_strings (s : List UInt8) (h : strL s = some s.length) : mk 0 s 0 = [] ∧ (mk 0 ([91] ++ s ++ [44] ++ s ++ [93]) 0).map (·.1) = [0, 1 + s.length, 2 + 2 * s.length] := by
  have h1 := fun p t => (strL_mk s s.length h p t).2
  simp only [List.drop_length, List.nil_append] at h1
  constructor
  · have := h1 0 []
    simpa [mk] using this
  · have e : [91] ++ s ++ [44] ++ s ++ [93] = 91 :: (s ++ (44 :: (s ++ [93]))) := by simp
    rw [e, mk_out_mark 91 _ _ (by decide), h1, mk_out_mark 44 _ _ (by decide), h1, mk_out_mark 93 _ _ (by decide), mk_nil]
    simp; omega

end Go.Proofs.Ytppeahlnpidheaa
