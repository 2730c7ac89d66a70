/- JSON texts on lists: blanks about the marks change nothing; plain. -/
import Derived.Test.YtppeahlnpidheaaPe0
namespace Go.Proofs.Ytppeahlnpidheaa

/-- Each mark with a 20 ahead and a 0a behind. -/
def sprd : Nat → List UInt8 → List UInt8
  | _, [] => []
  | st, c :: r =>
    if st = 2 then c :: sprd 1 r
    else if st = 1 then (if c = 92 then c :: sprd 2 r else if c = 34 then c :: sprd 0 r else c :: sprd 1 r)
    else if c = 34 then c :: sprd 1 r else if isMark c.toNat then 32 :: c :: 10 :: sprd 0 r else c :: sprd 0 r
theorem sprd_nil (st : Nat) : sprd st [] = [] := by cases st <;> rfl
theorem sp_quote (r : List UInt8) : sprd 0 (34 :: r) = 34 :: sprd 1 r := by simp [sprd]
theorem sp_mark {c : UInt8} (r : List UInt8) (h : isMark c.toNat = true) : sprd 0 (c :: r) = 32 :: c :: 10 :: sprd 0 r := by
  have h' : c ≠ 34 := by rintro rfl; simp [isMark] at h
  simp [sprd, h, h']
theorem sp_plain {c : UInt8} (r : List UInt8) (h : plainB c = true) : sprd 0 (c :: r) = c :: sprd 0 r := by
  simp only [plainB, Bool.and_eq_true, Bool.not_eq_true', bne_iff_ne, ne_eq] at h
  simp [sprd, h.1, h.2]
theorem sp_in {c : UInt8} (r : List UInt8) (h : c ≠ 34) (h' : c ≠ 92) : sprd 1 (c :: r) = c :: sprd 1 r := by simp [sprd, h, h']

theorem mk_sprd : ∀ (l : List UInt8) (st p q : Nat), (mk st (sprd st l) q).map (·.2) = (mk st l p).map (·.2)
  | [], st, p, q => by rw [sprd_nil, mk_nil, mk_nil]
  | c :: r, st, p, q => by
    rw [sprd]
    split
    · rename_i h; subst h; simp only [mk, if_true]; exact mk_sprd r 1 _ _
    · rename_i h2
      split
      · rename_i h; subst h
        split
        · rename_i hc; subst hc; simp [mk]; exact mk_sprd r 2 _ _
        · split
          · rename_i hc; subst hc; simp [mk]; exact mk_sprd r 0 _ _
          · rename_i ha hb; rw [mk_in_other _ _ _ ha hb, mk_in_other _ _ _ ha hb]; exact mk_sprd r 1 _ _
      · rename_i h1
        have e : ∀ l p, mk st l p = mk 0 l p := by
          intro l p; cases l with
          | nil => rw [mk_nil, mk_nil]
          | cons x y => rw [mk, mk, if_neg h2, if_neg h1]; rfl
        rw [e, e]
        split
        · rename_i hc; subst hc; rw [mk_out_quote, mk_out_quote]; exact mk_sprd r 1 _ _
        · rename_i hc
          split
          · rename_i hm
            rw [mk_out_other 32 _ _ (by decide) (by decide), mk_out_mark _ _ _ hm, mk_out_other 10 _ _ (by decide) (by decide), mk_out_mark _ _ _ hm]
            simp only [List.map_cons]
            rw [mk_sprd r 0 (p + 1) _]
          · rename_i hm
            rw [mk_out_other _ _ _ (by simpa using hm) hc, mk_out_other _ _ _ (by simpa using hm) hc]; exact mk_sprd r 0 _ _

theorem sp_skip (n : Nat) : ∀ (l : List UInt8), n ≤ l.length → (∀ i, i < n → ∀ x, l[i]? = some x → x ≠ 34 ∧ x ≠ 92) → sprd 1 l = l.take n ++ sprd 1 (l.drop n) := by
  induction n with
  | zero => intro l _ _; simp
  | succ n ih =>
    intro l hn h
    cases l with
    | nil => simp at hn
    | cons c r =>
      have hc := h 0 (by omega) c rfl
      rw [sp_in _ hc.1 hc.2, ih r (by simpa using hn) (fun i hi x hx => h (i + 1) (by omega) x (by simpa using hx))]
      simp
theorem esc_sp {r : List UInt8} {n : Nat} (h : escL r = some n) : sprd 2 r = r.take n ++ sprd 1 (r.drop n) := by
  cases r with
  | nil => simp [escL] at h
  | cons c r =>
    have h2 : sprd 2 (c :: r) = c :: sprd 1 r := by simp [sprd]
    rw [h2]
    simp only [escL] at h
    split at h
    · cases h; simp
    · split at h
      · split at h
        · rename_i hh
          cases h
          have hl := hh.1
          rw [sp_skip 4 r (by simp at hl; omega) (fun i hi x hx => hex_plain (by
            have hm : x ∈ r.take 4 := by
              apply List.mem_of_getElem? (i := i)
              rw [List.getElem?_take_of_lt hi]; exact hx
            exact List.all_eq_true.1 hh.2 x hm))]
          simp
        · cases h
      · cases h
theorem scal_ends {c : UInt8} {r : List UInt8} (h1 : c ≠ 34) (h3 : c ≠ 92) : ∀ i, i < scalN (c :: r) → ∀ x, (c :: r)[i]? = some x → x ≠ 34 ∧ x ≠ 92 := by
  intro i hi x hx
  cases i with
  | zero => simp at hx; subst hx; exact ⟨h1, h3⟩
  | succ i =>
    obtain ⟨y, hy, hy2⟩ := scal_tail (c :: r) (i + 1) (by omega) hi
    rw [hx] at hy; cases hy
    constructor <;> (rintro rfl; revert hy2; decide)
theorem take_app {α : Type} (l : List α) (a b : Nat) : l.take a ++ (l.drop a).take b = l.take (a + b) := by
  rw [List.take_add]
theorem strB_sp (l : List UInt8) : ∀ n, strB l = some n → sprd 1 l = l.take n ++ sprd 0 (l.drop n) := by
  fun_induction strB l with
  | case1 => intro n h; cases h
  | case2 r => intro n h; cases h; simp [sprd]
  | case3 => intro n h; cases h
  | case4 r n0 hn h1 h2 ih =>
    intro n h
    cases hs : strB (r.drop n0) with
    | none => rw [hs] at h; cases h
    | some m =>
      rw [hs] at h
      simp only [Option.map_some, Option.some.injEq] at h
      subst h
      have e : sprd 1 (92 :: r) = 92 :: sprd 2 r := by simp [sprd]
      rw [e, esc_sp hn, ih m hs, List.drop_drop, ← List.append_assoc, take_app]
      rw [show m + (n0 + 1) = (n0 + m) + 1 by omega]
      simp only [List.drop_succ_cons, List.take_succ_cons, List.cons_append]
  | case5 => intro n h; cases h
  | case6 => intro n h; cases h
  | case7 c r h1 h2 h3 h4 ih =>
    intro n h
    cases hs : strB ((c :: r).drop (scalN (c :: r))) with
    | none => rw [hs] at h; cases h
    | some m =>
      rw [hs] at h
      simp only [Option.map_some, Option.some.injEq] at h
      subst h
      rw [sp_skip (scalN (c :: r)) (c :: r) (scalN_le _) (scal_ends h1 h3), ih m hs, List.drop_drop, ← List.append_assoc, take_app, Nat.add_comm m]
theorem strL_sp {l : List UInt8} {n : Nat} (h : strL l = some n) : sprd 0 l = l.take n ++ sprd 0 (l.drop n) := by
  cases l with
  | nil => cases h
  | cons c r =>
    simp only [strL] at h
    split at h
    · rename_i hc
      subst hc
      cases hs : strB r with
      | none => rw [hs] at h; cases h
      | some m =>
        rw [hs] at h
        simp only [Option.map_some, Option.some.injEq] at h
        subst h
        rw [sp_quote, strB_sp r m hs]; simp
    · cases h

theorem size_of (l : List UInt8) : (⟨l.toArray⟩ : ByteArray).size = l.length := by simp [ByteArray.size]
/-- A scalar's bytes alone count. -/
theorem scal_loc {l l' : List UInt8} {k : Nat} (hk : scalN l = k) (h0 : k ≠ 0) (h : l'.take k = l.take k) : scalN l' = k := by
  have hle := scalN_le l
  have hlen := congrArg List.length h
  rw [List.length_take, List.length_take] at hlen
  have hb : ∀ i, i < k → bI ⟨l'.toArray⟩ i = bI ⟨l.toArray⟩ i := by
    intro i hi
    have e := congrArg (fun q => q[i]?) h
    simp only [List.getElem?_take_of_lt hi] at e
    simp [bI, List.getD, e]
  have hx : ∀ n, n ≤ k → (⟨l'.toArray⟩ : ByteArray).extract 0 n = (⟨l.toArray⟩ : ByteArray).extract 0 n := by
    intro n hn
    apply ByteArray.ext
    apply Array.toList_inj.1
    rw [extract0_list, extract0_list]
    have e := congrArg (List.take n) h
    rw [List.take_take, List.take_take, Nat.min_eq_left hn] at e
    exact e
  have hl' : k ≤ l'.length := by omega
  unfold scalN scalM at hk
  rw [size_of] at hk
  unfold scalN scalM
  rw [size_of]
  have hne : ¬ l'.length = 0 := by omega
  rw [if_neg hne]
  by_cases c0 : l.length = 0
  · rw [if_pos c0] at hk; simp at hk; omega
  · rw [if_neg c0] at hk
    have b0 := hb 0 (by omega)
    rw [b0]
    by_cases c1 : bI ⟨l.toArray⟩ 0 < 128
    · rw [if_pos c1] at hk ⊢; exact hk
    · rw [if_neg c1] at hk ⊢
      by_cases c2 : bI ⟨l.toArray⟩ 0 < 192
      · rw [if_pos c2] at hk ⊢; exact hk
      · rw [if_neg c2] at hk ⊢
        by_cases c3 : bI ⟨l.toArray⟩ 0 < 224
        · rw [if_pos c3] at hk ⊢
          by_cases d1 : l.length < 2
          · rw [if_pos d1] at hk; exact absurd hk.symm h0
          · rw [if_neg d1] at hk
            by_cases d2 : strOfNums (putI (code2 ⟨l.toArray⟩)) = (⟨l.toArray⟩ : ByteArray).extract 0 2
            · rw [if_pos d2] at hk
              have hk2 : k = 2 := hk.symm
              have e1 := hb 1 (by omega)
              have ec : code2 ⟨l'.toArray⟩ = code2 ⟨l.toArray⟩ := by unfold code2; rw [b0, e1]
              rw [if_neg (by omega), ec, hx 2 (by omega), if_pos d2]; exact hk
            · rw [if_neg d2] at hk; exact absurd hk.symm h0
        · rw [if_neg c3] at hk ⊢
          by_cases c4 : bI ⟨l.toArray⟩ 0 < 240
          · rw [if_pos c4] at hk ⊢
            by_cases d1 : l.length < 3
            · rw [if_pos d1] at hk; exact absurd hk.symm h0
            · rw [if_neg d1] at hk
              by_cases d2 : strOfNums (putI (code3 ⟨l.toArray⟩)) = (⟨l.toArray⟩ : ByteArray).extract 0 3
              · rw [if_pos d2] at hk
                have hk2 : k = 3 := hk.symm
                have e1 := hb 1 (by omega)
                have e2 := hb 2 (by omega)
                have ec : code3 ⟨l'.toArray⟩ = code3 ⟨l.toArray⟩ := by unfold code3; rw [b0, e1, e2]
                rw [if_neg (by omega), ec, hx 3 (by omega), if_pos d2]; exact hk
              · rw [if_neg d2] at hk; exact absurd hk.symm h0
          · rw [if_neg c4] at hk ⊢
            by_cases c5 : bI ⟨l.toArray⟩ 0 < 248
            · rw [if_pos c5] at hk ⊢
              by_cases d1 : l.length < 4
              · rw [if_pos d1] at hk; exact absurd hk.symm h0
              · rw [if_neg d1] at hk
                by_cases d2 : strOfNums (putI (code4 ⟨l.toArray⟩)) = (⟨l.toArray⟩ : ByteArray).extract 0 4
                · rw [if_pos d2] at hk
                  have hk2 : k = 4 := hk.symm
                  have e1 := hb 1 (by omega)
                  have e2 := hb 2 (by omega)
                  have e3 := hb 3 (by omega)
                  have ec : code4 ⟨l'.toArray⟩ = code4 ⟨l.toArray⟩ := by unfold code4; rw [b0, e1, e2, e3]
                  rw [if_neg (by omega), ec, hx 4 (by omega), if_pos d2]; exact hk
                · rw [if_neg d2] at hk; exact absurd hk.symm h0
            · rw [if_neg c5] at hk; exact absurd hk.symm h0
theorem take_le_app {α : Type} {l : List α} {k j : Nat} (t : List α) (hk : k ≤ j) (hj : j ≤ l.length) : (l.take j ++ t).take k = l.take k := by
  rw [List.take_append_of_le_length (by rw [List.length_take]; omega), List.take_take, Nat.min_eq_left hk]
theorem drop_le_app {α : Type} {l : List α} {k j : Nat} (t : List α) (hj : k + j ≤ l.length) : (l.take (k + j) ++ t).drop k = (l.drop k).take j ++ t := by
  rw [List.drop_append_of_le_length (by rw [List.length_take]; omega), List.drop_take]; simp
theorem esc_loc {r : List UInt8} {n : Nat} (h : escL r = some n) {r' : List UInt8} (e : r'.take n = r.take n) : escL r' = some n := by
  cases r with
  | nil => simp [escL] at h
  | cons c r =>
    simp only [escL] at h
    split at h
    · cases h
      cases r' with
      | nil => simp at e
      | cons c' r' => simp at e; subst e; exact esc_in ‹_›
    · split at h
      · split at h
        · rename_i hc hu hh
          cases h
          cases r' with
          | nil => simp at e
          | cons c' r' =>
            simp only [List.take_succ_cons, List.cons.injEq] at e
            obtain ⟨rfl, e⟩ := e
            subst hu
            exact esc_u' (by rw [e]; exact hh)
        · cases h
      · cases h
theorem strB_loc (l : List UInt8) : ∀ n, strB l = some n → ∀ t, strB (l.take n ++ t) = some n := by
  fun_induction strB l with
  | case1 => intro n h; cases h
  | case2 r => intro n h t; cases h; exact strB_quote t
  | case3 => intro n h; cases h
  | case4 r n0 hn h1 h2 ih =>
    intro n h t
    cases hs : strB (r.drop n0) with
    | none => rw [hs] at h; cases h
    | some m =>
      rw [hs] at h
      simp only [Option.map_some, Option.some.injEq] at h
      subst h
      have hb1 := esc_bd hn
      have hb2 := (strB_mk _ m hs 0 []).1
      rw [List.length_drop] at hb2
      rw [show m + (n0 + 1) = (n0 + m) + 1 by omega, List.take_succ_cons, List.cons_append]
      rw [strB_esc (esc_loc hn (take_le_app t (by omega) (by omega))), drop_le_app t (by omega), ih m hs t]
      simp; omega
  | case5 => intro n h; cases h
  | case6 => intro n h; cases h
  | case7 c r h1 h2 h3 h4 ih =>
    intro n h t
    cases hs : strB ((c :: r).drop (scalN (c :: r))) with
    | none => rw [hs] at h; cases h
    | some m =>
      rw [hs] at h
      simp only [Option.map_some, Option.some.injEq] at h
      subst h
      have hb1 := scalN_le (c :: r)
      have hb2 := (strB_mk _ m hs 0 []).1
      rw [List.length_drop] at hb2
      have key : scalN ((c :: r).take (scalN (c :: r) + m) ++ t) = scalN (c :: r) := scal_loc rfl h4 (take_le_app t (by omega) (by omega))
      have key2 : strB (((c :: r).take (scalN (c :: r) + m) ++ t).drop (scalN (c :: r))) = some m := by rw [drop_le_app t (by omega), ih m hs t]
      generalize hk : scalN (c :: r) = k at *
      rw [Nat.add_comm m]
      obtain ⟨j, hj⟩ : ∃ j, k + m = j + 1 := ⟨k + m - 1, by omega⟩
      rw [hj] at key key2 ⊢
      rw [List.take_succ_cons, List.cons_append] at key key2 ⊢
      rw [strB_scal h1 h2 h3 (by rw [key]; exact h4), key, key2]
      simp; omega
theorem strL_loc {l : List UInt8} {n : Nat} (h : strL l = some n) (t : List UInt8) : strL (l.take n ++ t) = some n := by
  cases l with
  | nil => cases h
  | cons c r =>
    simp only [strL] at h
    split at h
    · rename_i hc
      subst hc
      cases hs : strB r with
      | none => rw [hs] at h; cases h
      | some m =>
        rw [hs] at h
        simp only [Option.map_some, Option.some.injEq] at h
        subst h
        simp only [List.take_succ_cons, List.cons_append, strL, if_true, strB_loc r m hs t, Option.map_some]
    · cases h
/-- A string stands as it stood. -/
theorem str_sp {l : List UInt8} {n : Nat} (h : strL l = some n) : strL (sprd 0 l) = some n ∧ (sprd 0 l).drop n = sprd 0 (l.drop n) := by
  have hl := (strL_mk l n h 0 []).1
  rw [strL_sp h]
  exact ⟨strL_loc h _, List.drop_left' (by rw [List.length_take]; omega)⟩

/-- A law that reads plain bytes alone. -/
def Sp (f : List UInt8 → Option Nat) : Prop := ∀ l, f (sprd 0 l) = f l ∧ ∀ n, f l = some n → (sprd 0 l).drop n = sprd 0 (l.drop n)
theorem hd_sp (l : List UInt8) {c : UInt8} (h : plainB c = true) (h' : c ≠ 32) : hd (sprd 0 l) c = hd l c := by
  cases l with
  | nil => rw [sprd_nil]
  | cons x r =>
    by_cases hx : plainB x = true
    · rw [sp_plain _ hx]; rfl
    · by_cases hq : x = 34
      · subst hq; rw [sp_quote]; rfl
      · have hm : isMark x.toNat = true := by
          simp only [plainB, Bool.and_eq_true, Bool.not_eq_true', bne_iff_ne, ne_eq, not_and, Classical.not_not] at hx
          cases hh : isMark x.toNat with
          | true => rfl
          | false => exact absurd (hx hh) hq
        rw [sp_mark _ hm]
        simp only [hd]
        have h1 : (32 == c) = false := by rw [beq_eq_false_iff_ne]; exact fun e => h' e.symm
        have h2 : (x == c) = false := by rw [beq_eq_false_iff_ne]; rintro rfl; exact hx h
        rw [h1, h2]
theorem drop1_sp {l : List UInt8} {c : UInt8} (h : plainB c = true) (hh : hd l c = true) : (sprd 0 l).drop 1 = sprd 0 (l.drop 1) := by
  obtain ⟨r, rfl⟩ := hd_cons hh
  rw [sp_plain _ h]; rfl
theorem dig_sp : ∀ (l : List UInt8), digN (sprd 0 l) = digN l ∧ (sprd 0 l).drop (digN l) = sprd 0 (l.drop (digN l))
  | [] => by rw [sprd_nil]; exact ⟨rfl, by simp [sprd]⟩
  | x :: r => by
    by_cases hd : isDig x = true
    · rw [sp_plain _ (dig_plain hd)]
      simp only [digN, hd, if_true]
      obtain ⟨h1, h2⟩ := dig_sp r
      exact ⟨by rw [h1], by simpa using h2⟩
    · have e : digN (x :: r) = 0 := by rw [digN, if_neg hd]
      rw [e]
      refine ⟨?_, rfl⟩
      by_cases hx : plainB x = true
      · rw [sp_plain _ hx, digN, if_neg hd]
      · by_cases hq : x = 34
        · subst hq; rw [sp_quote]; rfl
        · have hm : isMark x.toNat = true := by
            simp only [plainB, Bool.and_eq_true, Bool.not_eq_true', bne_iff_ne, ne_eq, not_and, Classical.not_not] at hx
            cases hh : isMark x.toNat with
            | true => rfl
            | false => exact absurd (hx hh) hq
          rw [sp_mark _ hm]; rfl
theorem Sp.map {f g : List UInt8 → Option Nat} {l : List UInt8} {k : Nat} (hg : Sp g) (hd : (sprd 0 l).drop k = sprd 0 (l.drop k)) :
    (g ((sprd 0 l).drop k)).map (· + k) = (g (l.drop k)).map (· + k) ∧ ∀ n, (g (l.drop k)).map (· + k) = some n → (sprd 0 l).drop n = sprd 0 (l.drop n) := by
  rw [hd]
  refine ⟨by rw [(hg _).1], fun n hn => ?_⟩
  obtain ⟨m, hm, rfl⟩ := Option.map_eq_some_iff.1 hn
  rw [Nat.add_comm m, ← List.drop_drop, hd, (hg _).2 m hm, List.drop_drop]
theorem num6_sp : Sp num6 := fun l => by
  unfold num6
  rw [(dig_sp l).1]
  refine ⟨rfl, fun n hn => ?_⟩
  split at hn
  · cases hn
  · cases hn; exact (dig_sp l).2
theorem num5_sp : Sp num5 := fun l => by
  unfold num5
  rw [hd_sp l (by decide) (by decide), hd_sp l (by decide) (by decide)]
  by_cases h : (hd l 43 || hd l 45) = true
  · rw [if_pos h, if_pos h]
    refine Sp.map (f := num6) num6_sp ?_
    rcases Bool.or_eq_true_iff.1 h with hh | hh
    · exact drop1_sp (by decide) hh
    · exact drop1_sp (by decide) hh
  · rw [if_neg h, if_neg h]; exact num6_sp l
theorem num4_sp : Sp num4 := fun l => by
  unfold num4
  rw [hd_sp l (by decide) (by decide), hd_sp l (by decide) (by decide)]
  by_cases h : (hd l 101 || hd l 69) = true
  · rw [if_pos h, if_pos h]
    refine Sp.map (f := num6) num5_sp ?_
    rcases Bool.or_eq_true_iff.1 h with hh | hh
    · exact drop1_sp (by decide) hh
    · exact drop1_sp (by decide) hh
  · rw [if_neg h, if_neg h]; exact ⟨rfl, fun n hn => by cases hn; rfl⟩
theorem num3_sp : Sp num3 := fun l => by
  unfold num3
  rw [hd_sp l (by decide) (by decide)]
  by_cases h : hd l 46 = true
  · have h1 := drop1_sp (by decide) h
    have h2 := dig_sp (l.drop 1)
    rw [if_pos h, if_pos h, h1, h2.1]
    by_cases hz : digN (l.drop 1) = 0
    · rw [if_pos hz, if_pos hz]; exact ⟨rfl, fun n hn => by cases hn⟩
    · rw [if_neg hz, if_neg hz]
      refine Sp.map (f := num6) num4_sp ?_
      rw [Nat.add_comm, ← List.drop_drop, h1, h2.2, List.drop_drop]
  · rw [if_neg h, if_neg h]; exact num4_sp l
theorem num2_sp : Sp num2 := fun l => by
  unfold num2
  rw [hd_sp l (by decide) (by decide), (dig_sp l).1]
  by_cases hz : digN l = 0
  · rw [if_pos hz, if_pos hz]; exact ⟨rfl, fun n hn => by cases hn⟩
  · rw [if_neg hz, if_neg hz]
    by_cases h : hd l 48 = true
    · rw [if_pos h, if_pos h]
      exact Sp.map (f := num6) num3_sp (drop1_sp (by decide) h)
    · rw [if_neg h, if_neg h]
      exact Sp.map (f := num6) num3_sp (dig_sp l).2
theorem numL_sp : Sp numL := fun l => by
  unfold numL
  rw [hd_sp l (by decide) (by decide)]
  by_cases h : hd l 45 = true
  · rw [if_pos h, if_pos h]
    exact Sp.map (f := num6) num2_sp (drop1_sp (by decide) h)
  · rw [if_neg h, if_neg h]; exact num2_sp l
theorem sp_word : ∀ (w r : List UInt8), w.all plainB = true → sprd 0 (w ++ r) = w ++ sprd 0 r
  | [], r, _ => rfl
  | c :: w, r, h => by
    simp only [List.all_cons, Bool.and_eq_true] at h
    rw [List.cons_append, sp_plain _ h.1, sp_word w r h.2]; rfl
theorem word_sp {w l : List UInt8} {n : Nat} (hw : w.all plainB = true) (h : wordL w l = some n) : wordL w (sprd 0 l) = some n ∧ (sprd 0 l).drop n = sprd 0 (l.drop n) := by
  unfold wordL at h ⊢
  split at h
  · rename_i hh
    cases h
    have e : w ++ l.drop w.length = l := (show w ++ l.drop w.length = l.take w.length ++ l.drop w.length by rw [hh]).trans (List.take_append_drop w.length l)
    have e2 : sprd 0 l = w ++ sprd 0 (l.drop w.length) := by have := sp_word w (l.drop w.length) hw; rw [e] at this; exact this
    rw [e2]
    exact ⟨by rw [List.take_left' rfl, if_pos rfl], by rw [List.drop_left' rfl]⟩
  · cases h

/-- Behind its blanks. -/
def sk (l : List UInt8) : List UInt8 := l.drop (blN l)
theorem sk_bl {c : UInt8} (r : List UInt8) (h : isBl c = true) : sk (c :: r) = sk r := by unfold sk; rw [blN, if_pos h]; rfl
theorem sk_no {c : UInt8} (r : List UInt8) (h : ¬ isBl c = true) : sk (c :: r) = c :: r := by unfold sk; rw [blN, if_neg h]; rfl
theorem sk_nil : sk [] = [] := rfl
theorem sk_head : ∀ (l : List UInt8) {c : UInt8} {r : List UInt8}, sk l = c :: r → ¬ isBl c = true
  | [], c, r, h => by cases h
  | x :: l, c, r, h => by
    by_cases hx : isBl x = true
    · rw [sk_bl _ hx] at h; exact sk_head l h
    · rw [sk_no _ hx] at h; cases h; exact hx
def skS : List UInt8 → List UInt8
  | [] => []
  | c :: r => if isMark c.toNat then c :: 10 :: sprd 0 r else sprd 0 (c :: r)
theorem mark_nobl {c : UInt8} (h : isMark c.toNat = true) : ¬ isBl c = true := by
  intro hb; have := bl_plain hb
  simp [plainB, h] at this
theorem sk_sp : ∀ (l : List UInt8), sk (sprd 0 l) = skS (sk l)
  | [] => rfl
  | c :: r => by
    by_cases hb : isBl c = true
    · rw [sp_plain _ (bl_plain hb), sk_bl _ hb, sk_bl _ hb]; exact sk_sp r
    · rw [sk_no _ hb, skS]
      by_cases hm : isMark c.toNat = true
      · rw [if_pos hm, sp_mark _ hm, sk_bl _ (by decide), sk_no _ (mark_nobl hm)]
      · rw [if_neg hm]
        by_cases hq : c = 34
        · subst hq; rw [sp_quote, sk_no _ (by decide)]
        · rw [sp_plain _ (by simp [plainB, hm, hq]), sk_no _ hb]
theorem skS_mark {c : UInt8} (r : List UInt8) (h : isMark c.toNat = true) : skS (c :: r) = c :: 10 :: sprd 0 r := by rw [skS, if_pos h]
theorem skS_other {l : List UInt8} {c : UInt8} {r : List UInt8} (hl : l = c :: r) (h : ¬ isMark c.toNat = true) : skS l = sprd 0 l := by subst hl; rw [skS, if_neg h]
theorem sk_10 (l : List UInt8) : sk (10 :: l) = sk l := sk_bl _ (by decide)
theorem sp_head {c : UInt8} (r : List UInt8) (h : ¬ isMark c.toNat = true) : ∃ r', sprd 0 (c :: r) = c :: r' := by
  by_cases hq : c = 34
  · subst hq; exact ⟨_, sp_quote r⟩
  · exact ⟨_, sp_plain _ (by simp [plainB, h, hq])⟩

def ValS (f : Nat) : Prop := ∀ l n d, valL f l = some (n, d) → ∀ u, sk u = sk (sprd 0 l) → ∃ n', valL f u = some (n', d) ∧ sk (u.drop n') = sk (sprd 0 (l.drop n))
def ItemS (f : Nat) : Prop := ∀ z l n d, (z = 93 ∨ z = 125) → itemL f z l = some (n, d) → ∀ u, sk u = sk (sprd 0 l) → ∃ n', itemL f z u = some (n', d) ∧ sk (u.drop n') = sk (sprd 0 (l.drop n))
def ItemsS (f : Nat) : Prop := ∀ z l d0 n d, (z = 93 ∨ z = 125) → itemsL f z l d0 = some (n, d) → ∀ u, sk u = sk (sprd 0 l) → ∃ n', itemsL f z u d0 = some (n', d) ∧ sk (u.drop n') = sk (sprd 0 (l.drop n))
def ManyS (f : Nat) : Prop := ∀ z l n d, (z = 93 ∨ z = 125) → manyL f z l = some (n, d) → ∀ u, sk u = sk (sprd 0 l) → ∃ n', manyL f z u = some (n', d) ∧ sk (u.drop n') = sk (sprd 0 (l.drop n))

theorem valL_eq {f : Nat} {l : List UInt8} {c : UInt8} {r : List UInt8} (h : sk l = c :: r) : valL (f + 1) l =
      if c = 110 then (wordL [110, 117, 108, 108] (c :: r)).map (fun n => (blN l + n, 0))
      else if c = 116 then (wordL [116, 114, 117, 101] (c :: r)).map (fun n => (blN l + n, 0))
      else if c = 102 then (wordL [102, 97, 108, 115, 101] (c :: r)).map (fun n => (blN l + n, 0))
      else if c = 34 then (strL (c :: r)).map (fun n => (blN l + n, 0))
      else if c = 91 then (manyL f 93 r).map (fun x => (blN l + 1 + x.1, x.2))
      else if c = 123 then (manyL f 125 r).map (fun x => (blN l + 1 + x.1, x.2))
      else (numL (c :: r)).map (fun n => (blN l + n, 0)) := by
  unfold sk at h
  rw [valL]; simp only [h]
theorem drop_sk (l : List UInt8) (n : Nat) : l.drop (blN l + n) = (sk l).drop n := by unfold sk; rw [List.drop_drop]

theorem drop_sk2 (l : List UInt8) (n : Nat) : l.drop (n + blN (l.drop n)) = sk (l.drop n) := by unfold sk; rw [List.drop_drop]
theorem sk_sk : ∀ (l : List UInt8), sk (sk l) = sk l
  | [] => rfl
  | c :: r => by
    by_cases h : isBl c = true
    · rw [sk_bl _ h]; exact sk_sk r
    · rw [sk_no _ h, sk_no _ h]

theorem all_sp : ∀ f, ValS f ∧ ItemS f ∧ ItemsS f ∧ ManyS f
  | 0 => ⟨fun l n d h => by simp [valL] at h, fun z l n d _ h => by simp [itemL] at h, fun z l d0 n d _ h => by simp [itemsL] at h, fun z l n d _ h => by simp [manyL] at h⟩
  | f + 1 => by
    obtain ⟨hV, hI, hS, hM⟩ := all_sp f
    refine ⟨?_, ?_, ?_, ?_⟩
    · intro l n d h u hu
      cases hr : sk l with
      | nil =>
        unfold sk at hr
        rw [valL] at h; simp [hr] at h
      | cons c r =>
        rw [valL_eq hr] at h
        rw [sk_sp, hr] at hu
        by_cases hm : isMark c.toNat = true
        · rw [skS_mark _ hm] at hu
          rw [valL_eq hu]
          have fin : ∀ {z : UInt8}, (z = 93 ∨ z = 125) → (manyL f z r).map (fun x => (blN l + 1 + x.1, x.2)) = some (n, d) →
              ∃ n', (manyL f z (10 :: sprd 0 r)).map (fun x => (blN u + 1 + x.1, x.2)) = some (n', d) ∧ sk (u.drop n') = sk (sprd 0 (l.drop n)) := by
            intro z hz ho
            obtain ⟨⟨m, e'⟩, hm, e⟩ := Option.map_eq_some_iff.1 ho
            cases e
            obtain ⟨m', h1, h2⟩ := hM z r m e' hz hm (10 :: sprd 0 r) (sk_10 _)
            refine ⟨blN u + 1 + m', by rw [h1]; rfl, ?_⟩
            rw [Nat.add_assoc, drop_sk, hu, Nat.add_assoc, drop_sk, hr, Nat.add_comm 1, Nat.add_comm 1]
            exact h2
          by_cases h1 : c = 91
          · subst h1
            simp only [show ¬ (91 : UInt8) = 110 by decide, show ¬ (91 : UInt8) = 116 by decide, show ¬ (91 : UInt8) = 102 by decide, show ¬ (91 : UInt8) = 34 by decide, if_false, if_true] at h ⊢
            exact fin (.inl rfl) h
          · by_cases h2 : c = 123
            · subst h2
              simp only [show ¬ (123 : UInt8) = 110 by decide, show ¬ (123 : UInt8) = 116 by decide, show ¬ (123 : UInt8) = 102 by decide, show ¬ (123 : UInt8) = 34 by decide, show ¬ (123 : UInt8) = 91 by decide, if_false, if_true] at h ⊢
              exact fin (.inr rfl) h
            · exfalso
              have hp := hm
              simp only [isMark, Bool.or_eq_true, beq_iff_eq] at hp
              have e1 : c ≠ 110 := by rintro rfl; revert hm; decide
              have e2 : c ≠ 116 := by rintro rfl; revert hm; decide
              have e3 : c ≠ 102 := by rintro rfl; revert hm; decide
              have e4 : c ≠ 34 := by rintro rfl; revert hm; decide
              rw [if_neg e1, if_neg e2, if_neg e3, if_neg e4, if_neg h1, if_neg h2] at h
              obtain ⟨m, hm2, _⟩ := Option.map_eq_some_iff.1 h
              have f1 : hd (c :: r) 45 = false := by simp only [hd, beq_eq_false_iff_ne]; rintro rfl; revert hm; decide
              have f2 : digN (c :: r) = 0 := by
                rw [digN, if_neg]; intro hd; have := dig_plain hd; simp [plainB, hm] at this
              rw [numL, f1] at hm2
              simp only [Bool.false_eq_true, if_false] at hm2
              rw [num2, if_pos f2] at hm2; cases hm2
        · rw [skS, if_neg hm] at hu
          obtain ⟨r', hr'⟩ := sp_head r hm
          have hu' := hu; rw [hr'] at hu'
          rw [valL_eq hu', ← hr']
          have fin : ∀ {o o' : Option Nat}, o.map (fun n => (blN l + n, 0)) = some (n, d) → (∀ m, o = some m → o' = some m ∧ (sprd 0 (c :: r)).drop m = sprd 0 ((c :: r).drop m)) →
              ∃ n', o'.map (fun n => (blN u + n, 0)) = some (n', d) ∧ sk (u.drop n') = sk (sprd 0 (l.drop n)) := by
            intro o o' ho ht
            obtain ⟨m, hm, e⟩ := Option.map_eq_some_iff.1 ho
            cases e
            obtain ⟨h1, h2⟩ := ht m hm
            refine ⟨blN u + m, by rw [h1]; rfl, ?_⟩
            rw [drop_sk, drop_sk, hu, hr, h2]
          split at h
          · rw [if_pos ‹_›]; exact fin h (fun m hm => word_sp (by decide) hm)
          · rw [if_neg ‹_›]
            split at h
            · rw [if_pos ‹_›]; exact fin h (fun m hm => word_sp (by decide) hm)
            · rw [if_neg ‹_›]
              split at h
              · rw [if_pos ‹_›]; exact fin h (fun m hm => word_sp (by decide) hm)
              · rw [if_neg ‹_›]
                split at h
                · rw [if_pos ‹_›]; exact fin h (fun m hm => str_sp hm)
                · rw [if_neg ‹_›]
                  rw [if_neg (by rintro rfl; exact hm (by decide)), if_neg (by rintro rfl; exact hm (by decide))] at h ⊢
                  exact fin h (fun m hm => ⟨(numL_sp _).1.trans hm, (numL_sp _).2 m hm⟩)
    · intro z l n d hz h u hu
      rw [itemL] at h ⊢
      by_cases hz1 : z = 93
      · rw [if_pos hz1] at h ⊢
        exact hV l n d h u hu
      · rw [if_neg hz1] at h ⊢
        cases hk : strL (l.drop (blN l)) with
        | none => simp [hk] at h
        | some k =>
          simp only [hk] at h
          have hsl : sk u = sprd 0 (sk l) := by
            rw [hu, sk_sp]
            cases hc : sk l with
            | nil => unfold sk at hc; rw [hc] at hk; cases hk
            | cons c r =>
              unfold sk at hc
              rw [hc] at hk; simp only [strL] at hk
              split at hk
              · rename_i h34; subst h34; exact skS_other rfl (by decide)
              · cases hk
          obtain ⟨g1, g2⟩ := str_sp hk
          have hk' : strL (u.drop (blN u)) = some k := by
            have : u.drop (blN u) = sprd 0 (l.drop (blN l)) := hsl
            rw [this]; exact g1
          simp only [hk']
          have hv : u.drop (blN u + k) = sprd 0 (l.drop (blN l + k)) := by
            rw [drop_sk, hsl, ← List.drop_drop]; exact g2
          split at h
          · rename_i hh
            obtain ⟨⟨m, e'⟩, hm, e⟩ := Option.map_eq_some_iff.1 h
            cases e
            have hh' := hh
            rw [drop_sk2 l (blN l + k)] at hh'
            obtain ⟨r, hr⟩ := hd_cons hh'
            have hskv : sk (u.drop (blN u + k)) = 58 :: 10 :: sprd 0 r := by rw [hv, sk_sp, hr]; exact skS_mark _ (by decide)
            have hcol : hd (u.drop (blN u + k + blN (u.drop (blN u + k)))) 58 = true := by rw [drop_sk2, hskv]; rfl
            rw [if_pos hcol]
            have e1 : l.drop (blN l + k + blN (l.drop (blN l + k)) + 1) = r := by
              rw [← List.drop_drop, drop_sk2, hr]; rfl
            have e2 : u.drop (blN u + k + blN (u.drop (blN u + k)) + 1) = 10 :: sprd 0 r := by
              rw [← List.drop_drop, drop_sk2, hskv]; rfl
            rw [e1] at hm
            obtain ⟨m', h1, h2⟩ := hV r m e' hm (10 :: sprd 0 r) (sk_10 _)
            rw [e2, h1]
            refine ⟨_, rfl, ?_⟩
            rw [← List.drop_drop, e2, h2, ← List.drop_drop, e1]
          · cases h
    · intro z l d0 n d hz h u hu
      rw [itemsL] at h ⊢
      cases hm : itemL f z l with
      | none => simp [hm] at h
      | some x =>
        obtain ⟨m, e'⟩ := x
        simp only [hm] at h
        obtain ⟨m', g1, g2⟩ := hI z l m e' hz hm u hu
        simp only [g1]
        cases hr : sk (l.drop m) with
        | nil =>
          unfold sk at hr; simp [hr] at h
        | cons c r =>
          rw [sk_sp, hr] at g2
          have hr' := hr; unfold sk at hr'
          simp only [hr'] at h
          have e1 : l.drop (m + blN (l.drop m) + 1) = r := by
            rw [← List.drop_drop, drop_sk2, hr]; rfl
          by_cases hcz : c = z
          · rw [if_pos hcz] at h
            cases h
            subst hcz
            rw [skS_mark _ (z_mark hz)] at g2
            have g2' := g2; unfold sk at g2'
            simp only [g2', if_true]
            refine ⟨_, rfl, ?_⟩
            rw [e1, ← List.drop_drop, drop_sk2, g2]
            exact sk_10 _
          · rw [if_neg hcz] at h
            split at h
            · rename_i h44
              subst h44
              obtain ⟨⟨j, e''⟩, hj, e⟩ := Option.map_eq_some_iff.1 h
              cases e
              rw [skS_mark _ (by decide)] at g2
              have g2' := g2; unfold sk at g2'
              simp only [g2', if_neg hcz, if_true]
              obtain ⟨j', k1, k2⟩ := hS z r _ j e'' hz hj (10 :: sprd 0 r) (sk_10 _)
              rw [k1]
              refine ⟨_, rfl, ?_⟩
              have e2 : u.drop (m' + blN (u.drop m') + 1) = 10 :: sprd 0 r := by
                rw [← List.drop_drop, drop_sk2, g2]; rfl
              rw [← List.drop_drop, e2, k2, ← List.drop_drop, e1]
            · cases h
    · intro z l n d hz h u hu
      rw [manyL] at h ⊢
      by_cases hh : hd (l.drop (blN l)) z = true
      · rw [if_pos hh] at h
        cases h
        have hh' : hd (sk l) z = true := hh
        obtain ⟨r, hr⟩ := hd_cons hh'
        rw [sk_sp, hr, skS_mark _ (z_mark hz)] at hu
        have hu' : hd (u.drop (blN u)) z = true := by
          have : u.drop (blN u) = z :: 10 :: sprd 0 r := hu
          rw [this]; simp [hd]
        rw [if_pos hu']
        refine ⟨_, rfl, ?_⟩
        rw [drop_sk, hu, drop_sk, hr]
        exact sk_10 _
      · rw [if_neg hh] at h
        obtain ⟨⟨m, e'⟩, hm, e⟩ := Option.map_eq_some_iff.1 h
        cases e
        have hu2 : sk (sk u) = sk (sprd 0 (sk l)) := by
          rw [sk_sp, sk_sk, sk_sk, hu, sk_sp]
        obtain ⟨m', g1, g2⟩ := hS z (sk l) 0 m e' hz hm (sk u) hu2
        have hu' : ¬ hd (u.drop (blN u)) z = true := by
          intro hx
          have hx' : hd (sk u) z = true := hx
          rw [hu, sk_sp] at hx'
          cases hc : sk l with
          | nil => rw [hc] at hx'; cases hx'
          | cons c r =>
            rw [hc] at hx'
            have : c = z := by
              rw [skS] at hx'
              split at hx'
              · simpa [hd] using hx'
              · rename_i hm2
                obtain ⟨r', hr'⟩ := sp_head r hm2
                rw [hr'] at hx'; simpa [hd] using hx'
            apply hh
            have hl : l.drop (blN l) = c :: r := hc
            rw [hl]; simp [hd, this]
        rw [if_neg hu']
        have g1' : itemsL f z (u.drop (blN u)) 0 = some (m', e') := g1
        rw [g1']
        refine ⟨_, rfl, ?_⟩
        rw [drop_sk, drop_sk]; exact g2

theorem all_mono : ∀ f, (∀ l x, valL f l = some x → valL (f + 1) l = some x) ∧ (∀ z l x, itemL f z l = some x → itemL (f + 1) z l = some x) ∧
    (∀ z l d x, itemsL f z l d = some x → itemsL (f + 1) z l d = some x) ∧ (∀ z l x, manyL f z l = some x → manyL (f + 1) z l = some x)
  | 0 => ⟨fun l n h => by simp [valL] at h, fun z l n h => by simp [itemL] at h, fun z l d0 n h => by simp [itemsL] at h, fun z l n h => by simp [manyL] at h⟩
  | f + 1 => by
    obtain ⟨hV, hI, hS, hM⟩ := all_mono f
    have mp : ∀ {α β : Type} {o o' : Option α} {g : α → β} {x : β}, (∀ y, o = some y → o' = some y) → o.map g = some x → o'.map g = some x := by
      intro α β o o' g x h hx
      obtain ⟨y, hy, rfl⟩ := Option.map_eq_some_iff.1 hx
      rw [h y hy]; rfl
    refine ⟨?_, ?_, ?_, ?_⟩
    · intro l x h
      cases hr : sk l with
      | nil => unfold sk at hr; rw [valL] at h; simp [hr] at h
      | cons c r =>
        rw [valL_eq hr] at h ⊢
        split at h
        · rw [if_pos ‹_›]; exact h
        · rw [if_neg ‹_›]; split at h
          · rw [if_pos ‹_›]; exact h
          · rw [if_neg ‹_›]; split at h
            · rw [if_pos ‹_›]; exact h
            · rw [if_neg ‹_›]; split at h
              · rw [if_pos ‹_›]; exact h
              · rw [if_neg ‹_›]; split at h
                · rw [if_pos ‹_›]; exact mp (hM _ _) h
                · rw [if_neg ‹_›]; split at h
                  · rw [if_pos ‹_›]; exact mp (hM _ _) h
                  · rw [if_neg ‹_›]; exact h
    · intro z l x h
      rw [itemL] at h ⊢
      split at h
      · rw [if_pos ‹_›]; exact hV _ _ h
      · rw [if_neg ‹_›]
        split at h
        · cases h
        · rename_i hk
          split at h
          · rw [if_pos ‹_›]; exact mp (hV _) h
          · cases h
    · intro z l d x h
      rw [itemsL] at h ⊢
      split at h
      · cases h
      · rename_i m e' hm
        simp only [hI z l _ hm]
        split at h
        · cases h
        · rename_i c r hr
          split at h
          · rw [if_pos ‹_›]; exact h
          · rw [if_neg ‹_›]
            split at h
            · rw [if_pos ‹_›]; exact mp (hS _ _ _) h
            · cases h
    · intro z l x h
      rw [manyL] at h ⊢
      split at h
      · rw [if_pos ‹_›]; exact h
      · rw [if_neg ‹_›]; exact mp (hS _ _ _) h
theorem val_mono {f g : Nat} (h : f ≤ g) {l : List UInt8} {x : Nat × Nat} (hv : valL f l = some x) : valL g l = some x := by
  obtain ⟨k, rfl⟩ := Nat.exists_eq_add_of_le h
  clear h
  induction k with
  | zero => exact hv
  | succ k ih => exact (all_mono _).1 _ _ ih
theorem sprd_len : ∀ (l : List UInt8) (st : Nat), l.length ≤ (sprd st l).length ∧ (sprd st l).length ≤ 3 * l.length
  | [], st => by rw [sprd_nil]; simp
  | c :: r, st => by
    have h0 := sprd_len r 0; have h1 := sprd_len r 1; have h2 := sprd_len r 2
    rw [sprd]
    simp only [List.length_cons]
    repeat' split
    all_goals (simp only [List.length_cons]; omega)
/-- With blanks about each mark a JSON text is one. -/
theorem text_sp {l : List UInt8} {d : Nat} (h : textL l = some d) : textL (sprd 0 l) = some d := by
  unfold textL at h ⊢
  split at h
  · cases h
  · rename_i n d' hv
    split at h
    · rename_i hl
      cases h
      obtain ⟨n', h1, h2⟩ := (all_sp _).1 l n d hv (sprd 0 l) rfl
      have h3 := val_mono (g := 4 * (sprd 0 l).length + 8) (by have := (sprd_len l 0).1; omega) h1
      rw [h3]
      simp only
      obtain ⟨_, ⟨hn', _⟩, _⟩ := (all_ok _).1 _ _ _ h3
      have hnl : l.drop n = l.drop n := rfl
      have e : sk (l.drop n) = [] := by
        unfold sk; rw [List.drop_drop, hl, List.drop_length]
      rw [sk_sp, e] at h2
      unfold sk at h2
      have h4 := congrArg List.length h2
      simp only [List.length_drop, skS, List.length_nil] at h4
      have h5 := blN_le ((sprd 0 l).drop n')
      rw [List.length_drop] at h5
      rw [if_pos (by omega)]
    · cases h

end Go.Proofs.Ytppeahlnpidheaa
