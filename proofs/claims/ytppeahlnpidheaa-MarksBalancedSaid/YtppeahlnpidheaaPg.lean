/- The law MarksBalanced walked. -/
import Derived.Test.YtppeahlnpidheaaPf
import Derived.Test.YtppeahlnpidheaaPh
namespace Go.Proofs.Ytppeahlnpidheaa
open Go.RowKit

theorem mk_cons_sp : ∀ (l : List UInt8) (st q p : Nat) (c : UInt8) (r : List (Nat × UInt8)), mk st l q = (p, c) :: r →
    ∃ n, p = q + n ∧ l[n]? = some c ∧ sprd st l = l.take n ++ (32 :: c :: 10 :: sprd 0 (l.drop (n + 1))) ∧ mk 0 (l.drop (n + 1)) (p + 1) = r
  | [], st, q, p, c, r, h => by rw [mk_nil] at h; cases h
  | x :: l, st, q, p, c, r, h => by
    have key : ∀ s', mk s' l (q + 1) = (p, c) :: r → sprd st (x :: l) = x :: sprd s' l → ∃ n, p = q + n ∧ (x :: l)[n]? = some c ∧ sprd st (x :: l) = (x :: l).take n ++ (32 :: c :: 10 :: sprd 0 ((x :: l).drop (n + 1))) ∧ mk 0 ((x :: l).drop (n + 1)) (p + 1) = r := by
      intro s' h1 h2
      obtain ⟨n, a1, a2, a3, a4⟩ := mk_cons_sp l s' (q + 1) p c r h1
      exact ⟨n + 1, by omega, by simpa using a2, by rw [h2, a3]; simp, by simpa using a4⟩
    rw [mk] at h
    split at h
    · rename_i h2; exact key 1 h (by rw [sprd, if_pos h2])
    · rename_i h2
      split at h
      · rename_i h1
        split at h
        · rename_i hc; exact key 2 h (by rw [sprd, if_neg h2, if_pos h1, if_pos hc])
        · rename_i hc
          split at h
          · rename_i hd; exact key 0 h (by rw [sprd, if_neg h2, if_pos h1, if_neg hc, if_pos hd])
          · rename_i hd; exact key 1 h (by rw [sprd, if_neg h2, if_pos h1, if_neg hc, if_neg hd])
      · rename_i h1
        split at h
        · rename_i hc; exact key 1 h (by rw [sprd, if_neg h2, if_neg h1, if_pos hc])
        · rename_i hc
          split at h
          · rename_i hm
            simp only [List.cons.injEq, Prod.mk.injEq] at h
            obtain ⟨⟨rfl, rfl⟩, rfl⟩ := h
            exact ⟨0, rfl, rfl, by rw [sprd, if_neg h2, if_neg h1, if_neg hc, if_pos hm]; rfl, rfl⟩
          · rename_i hm; exact key 0 h (by rw [sprd, if_neg h2, if_neg h1, if_neg hc, if_neg hm])
theorem mk_nil_sp : ∀ (l : List UInt8) (st q : Nat), mk st l q = [] → sprd st l = l
  | [], st, q, h => by rw [sprd_nil]
  | x :: l, st, q, h => by
    have key : ∀ s', mk s' l (q + 1) = [] → sprd st (x :: l) = x :: sprd s' l → sprd st (x :: l) = x :: l := by
      intro s' h1 h2; rw [h2, mk_nil_sp l s' (q + 1) h1]
    rw [mk] at h
    split at h
    · rename_i h2; exact key 1 h (by rw [sprd, if_pos h2])
    · rename_i h2
      split at h
      · rename_i h1
        split at h
        · rename_i hc; exact key 2 h (by rw [sprd, if_neg h2, if_pos h1, if_pos hc])
        · rename_i hc
          split at h
          · rename_i hd; exact key 0 h (by rw [sprd, if_neg h2, if_pos h1, if_neg hc, if_pos hd])
          · rename_i hd; exact key 1 h (by rw [sprd, if_neg h2, if_pos h1, if_neg hc, if_neg hd])
      · rename_i h1
        split at h
        · rename_i hc; exact key 1 h (by rw [sprd, if_neg h2, if_neg h1, if_pos hc])
        · rename_i hc
          split at h
          · cases h
          · rename_i hm; exact key 0 h (by rw [sprd, if_neg h2, if_neg h1, if_neg hc, if_neg hm])
theorem par1_len (c : UInt8) : (par1 c).length = 2 := by
  unfold par1; split
  · rfl
  · split <;> rfl
theorem bits_len : ∀ (l : List (Nat × UInt8)), (parB l).length = 2 * l.length
  | [] => rfl
  | x :: l => by
    have e : parB (x :: l) = par1 x.2 ++ parB l := rfl
    rw [e, List.length_append, par1_len, bits_len l]; simp; omega
theorem marksB_sprd (s t : ByteArray) (h : t.data.toList = sprd 0 s.data.toList) : marksB t.data.toList = marksB s.data.toList := by
  unfold marksB; rw [h, parB_bits, parB_bits, mk_sprd s.data.toList 0 0 0]

def F1 (s : ByteArray) : Prop := ∀ w : World, Calls Try.prog 5 #[.string s] w fun e w' => e = .returned (.bool true) ∧ Bel w.heap.size w w'

set_option maxRecDepth 100000 in
set_option maxHeartbeats 2000000 in
theorem bal_big (s : ByteArray) (hs : s.size ≤ 9223372036854775807) (h : 600 < s.size) : F1 s := by
  intro w
  have HB := Lib.hid (Bel.refl w.heap.size w)
  go_enter Try.func5, Try.ntmps5
  go_wp2_with (go_at_call 7; refine (awake_any _).mono ?_; rintro e w' ⟨rfl, hb⟩; have HB := Lib.hid (HB.out.next hb); clear hb)
  go_ret
  exact ⟨rfl, HB.out⟩

set_option maxRecDepth 100000 in
set_option maxHeartbeats 2000000 in
theorem bal_no (s : ByteArray) (h0 : s.size ≤ 600) (hx : textL s.data.toList = none) : F1 s := by
  intro w
  have HB := Lib.hid (Bel.refl w.heap.size w)
  have htx := text_any s (by omega)
  rw [hx] at htx
  clear hx
  have hf1 := fieldR1
  go_enter Try.func5, Try.ntmps5
  go_wp2_with (first
    | (go_at_call 7; refine (awake_any _).mono ?_; rintro e w' ⟨rfl, hb⟩; have HB := Lib.hid (HB.out.next hb); clear hb)
    | (go_at_call 17; refine (htx _).mono ?_; rintro e w' ⟨m, d, rfl, hb⟩; simp only [RV, Option.isSome]; have HB := Lib.hid (HB.out.next hb); clear hb))
  go_ret
  exact ⟨rfl, HB.out⟩

set_option maxRecDepth 100000 in
set_option maxHeartbeats 4000000 in
theorem bal_yes (s : ByteArray) (h0 : s.size ≤ 600) (d : Nat) (hx : textL s.data.toList = some d) (M : List (Nat × UInt8)) (P : List Int) (Q : List Bool)
    (hM : Hid (mk 0 s.data.toList 0 = M)) (hP : Hid (P = M.map (fun x => (x.1 : Int)))) (hml : M.length ≤ 600) (e1 : marksI s.data.toList = P) (e2 : marksB s.data.toList = Q)
    (hq : lev 0 Q = some 0) (hql : Hid (Q.length = 2 * P.length)) (hpl : P.length ≤ 600) (hql' : Q.length ≤ 1200) : F1 s := by
  intro w
  have HB := Lib.hid (Bel.refl w.heap.size w)
  have htx := text_any s (by omega)
  rw [hx] at htx
  have HT2 := Lib.hid (show ∀ t : ByteArray, t.data.toList = sprd 0 s.data.toList → (textL t.data.toList).isSome = true ∧ marksB t.data.toList = Q from fun t ht => ⟨by rw [ht, text_sp hx]; rfl, by rw [marksB_sprd s t ht, e2]⟩)
  clear hx
  have hf1 := fieldR1
  have hp1 := fun w => places_own s (by omega) _ e1 w
  have hq1 := fun w => parens_own s (by omega) _ e2 w
  clear e1 e2
  have HSL := Lib.hid (show s.data.toList.length = s.size by simp)
  go_enter Try.func5, Try.ntmps5
  go_upto_region 3 with (first
    | (go_at_call 7; refine (awake_any _).mono ?_; rintro e w' ⟨rfl, hb⟩; have HB := Lib.hid (HB.out.next hb); clear hb)
    | (go_at_call 17; refine (htx _).mono ?_; rintro e w0 ⟨m, d, rfl, hb⟩; simp only [RV, Option.isSome]; have HB := Lib.hid (HB.out.next hb); clear hb))
  go_wp2_with fail
  refine (hp1 _).mono ?_
  rintro e w1 ⟨A1, c1, rfl, ho1, hb1⟩
  have HO1 := Lib.hid (rd_own ho1)
  have HB := Lib.hid (HB.out.next hb1)
  clear ho1 hb1
  go_wp2_with fail
  refine (hq1 _).mono ?_
  rintro e w2 ⟨A2, c2, rfl, ho2, hb2⟩
  have HO2 := Lib.hid (rd_own ho2)
  have HO1 := Lib.hid (HO1.out.bel hb2 (Nat.le_refl _))
  have HB := Lib.hid (HB.out.next hb2)
  clear ho2 hb2 hp1 hq1 htx
  go_wp2
  go_loopw [5, 6, 7] (fun v5 v6 v7 wr => ∃ (T : ByteArray) (fr k n : Nat), k ≤ P.length ∧ fr ≤ s.size ∧ v5 = .string T ∧ v6 = .int .i64 fr ∧ v7 = .int .i64 k ∧ T.size ≤ 3 * fr ∧ Hid (sprd 0 s.data.toList = T.data.toList ++ sprd 0 (s.data.toList.drop fr)) ∧ Hid (mk 0 (s.data.toList.drop fr) fr = M.drop k) ∧ wr = w2.drewN n) (fun _ _ v7 _ => P.length - (intOf v7).toNat)
  case atStart => exact ⟨⟨#[]⟩, 0, 0, 0, by omega, by omega, rfl, rfl, rfl, by decide, Lib.hid (by simp), hM, rfl⟩
  case round =>
    clear hM
    obtain ⟨T, fr, k, n, hk, hfr, rfl, rfl, rfl, hT, HS, HM, rfl⟩ := hrel
    by_cases hlt : k < P.length
    · have hltM : k < M.length := by rw [hP.out] at hlt; simpa using hlt
      have hcons := List.drop_eq_getElem_cons hltM
      obtain ⟨b, off, rfl, hbl, hc⟩ := HO1.out.pos (by simpa using (by omega : 0 < P.length))
      have hc1 := hc k (.int .i64 (M[k].1 : Int)) (by rw [hP.out]; simp [hltM])
      clear hc
      generalize M[k] = x at hcons hc1
      obtain ⟨p, c⟩ := x
      obtain ⟨n', a1, a2, a3, a4⟩ := mk_cons_sp _ 0 fr p c _ (HM.out.trans hcons)
      have hps : p < s.size := by
        have := (List.getElem?_eq_some_iff.1 a2).1
        rw [List.length_drop, HSL.out] at this; omega
      have hfp : fr ≤ p := by omega
      have hn' : n' = p - fr := by omega
      subst hn'
      have hsp : s.data.toList.drop (p + 1) = (s.data.toList.drop fr).drop (p - fr + 1) := by rw [List.drop_drop]; congr 1; omega
      have HM2 := Lib.hid (show mk 0 (s.data.toList.drop (p + 1)) (p + 1) = M.drop (k + 1) by rw [hsp]; exact a4)
      have hcp : s.data.toList[p]? = some c := by
        have := a2; rw [List.getElem?_drop] at this; rw [← this]; congr 1 <;> omega
      have HS2 := Lib.hid (show sprd 0 s.data.toList = (T ++ (s.extract fr p ++ ⟨#[32]⟩ ++ s.extract p (p + 1) ++ ⟨#[10]⟩)).data.toList ++ sprd 0 (s.data.toList.drop (p + 1)) by
        rw [HS.out, a3, hsp]
        simp only [ByteArray.data_append, Array.toList_append, ByteArray.data_extract, Array.toList_extract, List.extract_eq_take_drop]
        rw [show p + 1 - p = 1 by omega, List.drop_eq_getElem_cons (l := s.data.toList) (i := p) (by rw [HSL.out]; exact hps)]
        have : s.data.toList[p]'(by rw [HSL.out]; exact hps) = c := by
          rw [List.getElem?_eq_getElem (by rw [HSL.out]; exact hps)] at hcp; injection hcp
        rw [this]; simp)
      clear a1 a2 a3 a4 hcons hsp hcp
      go_wp2
      have hw : IntKind.i64.wrap ((p : Int) + 1) = (p : Int) + 1 := IntWalk.i64_in _ (by omega)
      have hw0 : 0 ≤ (p : Int) + 1 := by omega
      have hwn : ((p : Int) + 1).toNat = p + 1 := by omega
      have hfp' : (fr : Int) ≤ p := by omega
      have hps' : (p : Int) ≤ s.size := by omega
      have hps2 : (p : Int) + 1 ≤ s.size := by omega
      have hpp : (p : Int) ≤ p + 1 := by omega
      go_quiet (fail)
      clear hw
      go_wp2
      have z1 : (⟨#[32]⟩ : ByteArray).size = 1 := rfl
      have z2 : (⟨#[10]⟩ : ByteArray).size = 1 := rfl
      go_roundw
      case rel => exact ⟨_, p + 1, k + 1, _, by omega, by omega, rfl, by go_num, by go_num, by simp only [ByteArray.size_append, ByteArray.size_extract, z1, z2]; omega, HS2, HM2, rfl⟩
      case measure => simp [intOf]; omega
    · have hkM : M.length ≤ k := by rw [hP.out] at hlt; simpa using hlt
      have HF := Lib.hid (show (T ++ s.extract fr s.size).data.toList = sprd 0 s.data.toList by
        rw [HS.out, mk_nil_sp _ _ _ (HM.out.trans (List.drop_of_length_le hkM))]
        rw [extract_list]; simp)
      have htz : (T ++ s.extract fr s.size).size ≤ 4000 := by simp; omega
      have hg := HT2.out _ HF.out
      have htx := text_any (T ++ s.extract fr s.size) (by omega)
      rw [hg.1] at htx
      have hq3 := fun w => parens_own (T ++ s.extract fr s.size) (by omega) _ hg.2 w
      clear hg HS HM HF htz
      have HO1 := Lib.hid (HO1.out.drewN n)
      have HO2 := Lib.hid (HO2.out.drewN n)
      have HB := Lib.hid (HB.out.drewN n)
      have hbal := balanced_any A2 Q c2 _ (by omega) HO2.out hq
      have hqq : (((Q.length : Nat) : Int) == 2 * ((P.length : Nat) : Int)) = true := by have := hql.out; simp; omega
      go_wp2_with fail
      refine hbal.mono ?_
      rintro e w3 ⟨rfl, rfl⟩
      go_wp2_with fail
      refine (hq3 _).mono ?_
      rintro e w4 ⟨A4, c4, rfl, ho4, hb4⟩
      have HO4 := Lib.hid (rd_own ho4)
      have HO2 := Lib.hid (HO2.out.bel hb4 (Nat.le_refl _))
      have HB := Lib.hid (HB.out.next hb4)
      clear ho4 hb4
      go_wp2_with fail
      refine (sameBits_any A2 A4 Q Q c2 c4 _ (by unfold maxLen; omega) (by unfold maxLen; omega) HO2.out HO4.out).mono ?_
      rintro e w5 ⟨rfl, hb5⟩
      rw [decide_eq_true (rfl : Q = Q)]
      have HB := Lib.hid (HB.out.next (Bel.of hb5))
      clear hb5
      go_wp2_with (go_at_call 17; refine (htx _).mono ?_; rintro e w' ⟨m, d, rfl, hb⟩; simp only [RV]; have HB := Lib.hid (HB.out.next hb); clear hb)
      go_ret
      exact ⟨rfl, HB.out⟩

theorem balLaw_any (s : ByteArray) (w : World) (hs : s.size ≤ 9223372036854775807) :
    Calls Try.prog 5 #[.string s] w fun e w' => e = .returned (.bool true) ∧ Bel w.heap.size w w' := by
  by_cases h0 : s.size ≤ 600
  · cases hx : textL s.data.toList with
    | none => exact bal_no s h0 hx w
    | some d =>
      have hl1 := mk_len 0 s.data.toList 0
      have hsl : s.data.toList.length = s.size := by simp
      rw [hsl] at hl1
      have hbl := bits_len (mk 0 s.data.toList 0)
      refine bal_yes s h0 d hx (mk 0 s.data.toList 0) (marksI s.data.toList) (marksB s.data.toList) rfl rfl (by omega) rfl rfl (marks_bal hx 0 0) ?_ ?_ ?_ w
      · exact Lib.hid (by simp [marksI, marksB, hbl])
      · simp [marksI]; omega
      · simp [marksB, hbl]; omega
  · exact bal_big s hs (by omega) w

end Go.Proofs.Ytppeahlnpidheaa
