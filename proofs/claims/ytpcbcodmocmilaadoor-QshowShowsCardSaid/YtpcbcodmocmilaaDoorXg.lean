/- ref16: token: numbers. -/
import Derived.Test.YtpcbcodmocmilaaDoorXf
namespace Go.Proofs.YtpcbcodmocmilaaDoor
open Go.RowKit

/-- A number's digits from a place on. -/
theorem rnumT (s : ByteArray) (a f D : Nat) (b : Bool) (hb : hd (dr s a) 45 = b) (hf : f = a + if b then 1 else 0) (hD : digN (dr s f) = D) :
    numT (dr s a) = if D = 0 ∨ (hd (dr s f) 48 = true ∧ (b = true ∨ 1 < D)) then .error 3 else if numV ((dr s f).take D) = 9007199254740992 then .error 6 else .ok (if b then - numV ((dr s f).take D) else numV ((dr s f).take D), (f - a) + D) := by
  subst hf
  have := numT_eq (dr s a) (if b then 1 else 0) D b hb rfl (by rw [dr_dr]; exact hD)
  rw [dr_dr] at this
  rw [this, Nat.add_sub_cancel_left]
theorem numV_step (s : ByteArray) (f i : Nat) (h : f + i < s.size) : numV ((dr s f).take (i + 1)) = capI (numV ((dr s f).take i)) s[f + i] := by
  have := dr_snoc s f (f + i) (by omega) h
  rw [show f + i + 1 - f = i + 1 by omega, show f + i - f = i by omega] at this
  rw [this, numV_snoc]

set_option maxRecDepth 100000 in
set_option maxHeartbeats 4000000 in
theorem rtok_num (s : ByteArray) (a : Nat) (w : World) (hs : s.size ≤ 1000000) (h0 : a < s.size) (hc : ¬ (s[a] = 34 ∨ s[a] = 39)) (hd_ : isDig s[a] = true ∨ s[a] = 45) :
    Calls Tryd.prog 23 #[.string s, .int .i64 (a : Int)] w (ROne s a w) := by
  have hT := rT_num s a h0 hc hd_
  obtain ⟨hq1, hq2⟩ := nine' s a h0 hc
  have e0 : dr s a = s[a] :: dr s (a + 1) := drop_cons s a h0
  have hna := fun w => rname_any s a w hs (by omega)
  rw [e0, name_num hd_] at hna
  have hbi := s[a].toNat_lt
  have HR := Lib.hid (RK.start w)
  obtain ⟨b, hb⟩ : ∃ b, hd (dr s a) 45 = b := ⟨_, rfl⟩
  obtain ⟨f, hf⟩ : ∃ f, f = a + if b then 1 else 0 := ⟨_, rfl⟩
  obtain ⟨D, hD⟩ : ∃ D, digN (dr s f) = D := ⟨_, rfl⟩
  have hN := rnumT s a f D b hb hf hD
  have hbt : ((s[a].toNat : Int) == 45) = b := by rw [← hb]; exact (hd_i' h0 rfl)
  have hfs : f ≤ s.size := by rw [hf]; split <;> omega
  have hfd := digN_bd s f hfs
  rw [hD] at hfd
  have hdf := fun w => rdigits_at s f D w hs hfs (Lib.hid hD)
  have hda : b = false → ∃ d : Nat, 0 < d ∧ ∀ w, Calls Tryd.prog 42 #[.string s, .int .i64 (a : Int)] w fun e w' => e = .returned (.int .i64 (d : Nat)) ∧ w = w' := by
    intro hbf
    refine ⟨digN (dr s a), ?_, fun w => rdigits_any s a w hs (by omega)⟩
    rcases hd_ with h | h
    · rw [e0, digN, if_pos h]; omega
    · rw [h] at hbt; rw [hbf] at hbt; exact absurd hbt (by decide)
  have HN := Lib.hid hN
  have HT := Lib.hid hT
  have HAT := Lib.hid (fun i (hi : i < D) => dig_at s f (f + i) (by omega) (by rw [hD]; omega))
  have HD48 := Lib.hid (fun hp : f < s.size => hd_i' (c := 48) (n := 48) hp rfl)
  simp only [Nat.add_zero] at hna
  have hD0 : b = false → 0 < D := by
    intro hbf
    rw [hbf] at hf
    rw [show f = a from hf] at hD
    rcases hd_ with h | h
    · rw [← hD, e0, digN, if_pos h]; omega
    · rw [h] at hbt; rw [hbf] at hbt; exact absurd hbt (by decide)
  clear hc hd_ hT hN hb hD e0
  cases b with
  | true =>
    obtain rfl : f = a + 1 := hf
    clear hD0
    simp only [Int.natCast_add, Int.natCast_one] at hdf
    by_cases hz : D = 0
    · have HE := Lib.hid (show tokT (dr s a) = .error 3 by rw [HT.out, HN.out, if_pos (.inl hz)])
      have hz' : ((D : Int) == 0) = true := by rw [hz]; rfl
      clear hz
      go_enter Tryd.func23, Tryd.ntmps23
      generalize hQ : bodyPost Tryd.prog Tryd.f23 (ROne s a w) = Q
      have HQ := Lib.hid hQ; clear hQ
      go_wp2_with (first | (go_at_call 41; refine (hna _).mono ?_; rintro e w2 ⟨rfl, hb⟩; have HR2 := Lib.hid (HR.out.bel hb); clear hb; obtain ⟨⟨z1, z2⟩, ⟨c0, c1, c2, c3, c4⟩, ⟨f0, f1, f2, f3, f4⟩, d0, d1, d2, d3, d4⟩ := HR2.out.cells) | (go_at_call 42; refine (hdf _).mono ?_; rintro e w' ⟨rfl, rfl⟩))
      rw [← HQ.out]
      exact bodyPost_ret (v := .tuple #[.agg #[.int .i64 0, .string ⟨#[]⟩, .int .i64 0, .int .i64 0, .bool false], .int .i64 0, .int .i64 3]) (by simp [results, Tryd.results23, go_sem, d0, d1, d2, d3, d4]) rfl ⟨ROneE.no HE.out, bel_s5 HR2.out.2.2⟩
    · have hz' : ((D : Int) == 0) = false := by rw [beq_eq_false_iff_ne]; omega
      have hp : a + 1 < s.size := by omega
      have hbp := s[a + 1].toNat_lt
      have h48 := HD48.out hp
      have HZ := Lib.hid hz
      cases hq : hd (dr s (a + 1)) 48 with
      | true =>
        have HE := Lib.hid (show tokT (dr s a) = .error 3 by rw [HT.out, HN.out, if_pos (.inr ⟨hq, .inl rfl⟩)])
        rw [hq] at h48
        clear hq hz
        go_enter Tryd.func23, Tryd.ntmps23
        generalize hQ : bodyPost Tryd.prog Tryd.f23 (ROne s a w) = Q
        have HQ := Lib.hid hQ; clear hQ
        by_cases h1 : (1 : Int) < (D : Int)
        all_goals
          go_wp2_with (first | (go_at_call 41; refine (hna _).mono ?_; rintro e w2 ⟨rfl, hb⟩; have HR2 := Lib.hid (HR.out.bel hb); clear hb; obtain ⟨⟨z1, z2⟩, ⟨c0, c1, c2, c3, c4⟩, ⟨f0, f1, f2, f3, f4⟩, d0, d1, d2, d3, d4⟩ := HR2.out.cells) | (go_at_call 42; refine (hdf _).mono ?_; rintro e w' ⟨rfl, rfl⟩))
          rw [← HQ.out]
          exact bodyPost_ret (v := .tuple #[.agg #[.int .i64 0, .string ⟨#[]⟩, .int .i64 0, .int .i64 0, .bool false], .int .i64 0, .int .i64 3]) (by simp [results, Tryd.results23, go_sem, d0, d1, d2, d3, d4]) rfl ⟨ROneE.no HE.out, bel_s5 HR2.out.2.2⟩
      | false =>
        rw [hq] at h48
        have HQ48 := Lib.hid hq
        clear hq hz
        go_enter Tryd.func23, Tryd.ntmps23
        generalize hQ : bodyPost Tryd.prog Tryd.f23 (ROne s a w) = Q
        have HQ := Lib.hid hQ; clear hQ
        have HN := Lib.hid (HN.out.trans (if_neg (by simp [HZ.out, HQ48.out])))
        go_wp2_with (first | (go_at_call 41; refine (hna _).mono ?_; rintro e w2 ⟨rfl, hb⟩; have HR2 := Lib.hid (HR.out.bel hb); clear hb; obtain ⟨⟨z1, z2⟩, ⟨c0, c1, c2, c3, c4⟩, ⟨f0, f1, f2, f3, f4⟩, d0, d1, d2, d3, d4⟩ := HR2.out.cells) | (go_at_call 42; refine (hdf _).mono ?_; rintro e w' ⟨rfl, rfl⟩))
        go_loop [14, 15] (fun x y => ∃ (i : Nat) (v : Int), i ≤ D ∧ 0 ≤ v ∧ v ≤ 9007199254740992 ∧ x = .int .i64 v ∧ y = .int .i64 i ∧ Hid (v = numV ((dr s (a + 1)).take i))) (fun _ y => D - (intOf y).toNat)
        case atStart => exact ⟨0, 0, by omega, by omega, by omega, rfl, rfl, Lib.hid rfl⟩
        case round =>
          obtain ⟨i, v, hi, hv0, hv1, rfl, rfl, HV⟩ := hrel
          by_cases hlt : i < D
          · have hp : a + 1 + i < s.size := by omega
            have hbp := s[a + 1 + i].toNat_lt
            obtain ⟨_, hdg⟩ := HAT.out i hlt
            obtain ⟨hg0, hg1⟩ := digB_bd hdg
            have HV2 := Lib.hid (show capI v s[a + 1 + i] = numV ((dr s (a + 1)).take (i + 1)) by rw [numV_step s (a + 1) i hp, ← HV.out])
            have hcb := capI_bd v s[a + 1 + i] hv0 hg0
            have HCI := Lib.hid (show capI v s[a + 1 + i] = min (v * 10 + ((s[a + 1 + i].toNat : Int) - 48)) 9007199254740992 from rfl)
            clear hdg
            go_wp2
            all_goals
              go_round
              case rel => exact ⟨i + 1, capI v s[a + 1 + i], by omega, hcb.1, hcb.2, by rw [HCI.out]; (congr 1; omega), by go_num, HV2⟩
              case measure => simp [intOf] <;> omega
          · have HV := Lib.hid (show v = numV ((dr s (a + 1)).take D) by rw [HV.out, show i = D by omega])
            by_cases h53 : v = 9007199254740992
            · have HE := Lib.hid (show tokT (dr s a) = .error 6 by rw [HT.out, HN.out, ← HV.out, if_pos h53])
              have h53' : (v == 9007199254740992) = true := by rw [h53]; rfl
              clear h53
              go_wp2
              rw [← HQ.out]
              exact bodyPost_ret (v := .tuple #[.agg #[.int .i64 0, .string ⟨#[]⟩, .int .i64 0, .int .i64 0, .bool false], .int .i64 0, .int .i64 6]) (by simp [results, Tryd.results23, go_sem, d0, d1, d2, d3, d4]) rfl ⟨ROneE.no HE.out, bel_s5 HR2.out.2.2⟩
            · have HE := Lib.hid (show tokT (dr s a) = .ok (3, [], (-v), (a + 1 - a) + D) by rw [HT.out, HN.out, ← HV.out, if_neg h53]; rfl)
              have h53' : (v == 9007199254740992) = false := by rw [beq_eq_false_iff_ne]; exact h53
              clear h53
              go_wp2
              rw [← HQ.out]
              exact bodyPost_ret (v := .tuple #[.agg #[.int .i64 3, .string ⟨#[]⟩, .int .i64 (-v), .int .i64 (a : Nat), .bool false], .int .i64 ((a : Int) + 1 + (D : Int)), .int .i64 0]) (by simp [results, Tryd.results23, go_sem, d0, d1, d2, d3, d4]) rfl ⟨ROneE.yes HE.out rfl (by omega), bel_s5 HR2.out.2.2⟩
  | false =>
    obtain rfl : f = a := hf
    have hz := hD0 rfl
    clear hD0
    have hz' : ((D : Int) == 0) = false := by rw [beq_eq_false_iff_ne]; omega
    have hdg0 : (D : Int) > 0 := by omega
    have hp : f < s.size := h0
    have h48 := HD48.out hp
    cases hq : hd (dr s f) 48 with
    | true =>
      by_cases h1 : 1 < D
      · have HE := Lib.hid (show tokT (dr s f) = .error 3 by rw [HT.out, HN.out, if_pos (.inr ⟨hq, .inr h1⟩)])
        have h1' : (1 : Int) < (D : Int) := by omega
        rw [hq] at h48
        clear hq
        go_enter Tryd.func23, Tryd.ntmps23
        generalize hQ : bodyPost Tryd.prog Tryd.f23 (ROne s f w) = Q
        have HQ := Lib.hid hQ; clear hQ
        go_wp2_with (first | (go_at_call 41; refine (hna _).mono ?_; rintro e w2 ⟨rfl, hb⟩; have HR2 := Lib.hid (HR.out.bel hb); clear hb; obtain ⟨⟨z1, z2⟩, ⟨c0, c1, c2, c3, c4⟩, ⟨f0, f1, f2, f3, f4⟩, d0, d1, d2, d3, d4⟩ := HR2.out.cells) | (go_at_call 42; refine (hdf _).mono ?_; rintro e w' ⟨rfl, rfl⟩))
        rw [← HQ.out]
        exact bodyPost_ret (v := .tuple #[.agg #[.int .i64 0, .string ⟨#[]⟩, .int .i64 0, .int .i64 0, .bool false], .int .i64 0, .int .i64 3]) (by simp [results, Tryd.results23, go_sem, d0, d1, d2, d3, d4]) rfl ⟨ROneE.no HE.out, bel_s5 HR2.out.2.2⟩
      · have HG := Lib.hid (show ¬ (D = 0 ∨ hd (dr s f) 48 = true ∧ (false = true ∨ 1 < D)) by simp; omega)
        have h1' : ¬ (1 : Int) < (D : Int) := by omega
        rw [hq] at h48
        clear hq
        go_enter Tryd.func23, Tryd.ntmps23
        generalize hQ : bodyPost Tryd.prog Tryd.f23 (ROne s f w) = Q
        have HQ := Lib.hid hQ; clear hQ
        have HN := Lib.hid (HN.out.trans (if_neg (by exact HG.out)))
        go_wp2_with (first | (go_at_call 41; refine (hna _).mono ?_; rintro e w2 ⟨rfl, hb⟩; have HR2 := Lib.hid (HR.out.bel hb); clear hb; obtain ⟨⟨z1, z2⟩, ⟨c0, c1, c2, c3, c4⟩, ⟨f0, f1, f2, f3, f4⟩, d0, d1, d2, d3, d4⟩ := HR2.out.cells) | (go_at_call 42; refine (hdf _).mono ?_; rintro e w' ⟨rfl, rfl⟩))
        go_loop [14, 15] (fun x y => ∃ (i : Nat) (v : Int), i ≤ D ∧ 0 ≤ v ∧ v ≤ 9007199254740992 ∧ x = .int .i64 v ∧ y = .int .i64 i ∧ Hid (v = numV ((dr s (f)).take i))) (fun _ y => D - (intOf y).toNat)
        case atStart => exact ⟨0, 0, by omega, by omega, by omega, rfl, rfl, Lib.hid rfl⟩
        case round =>
          obtain ⟨i, v, hi, hv0, hv1, rfl, rfl, HV⟩ := hrel
          by_cases hlt : i < D
          · have hp : f + i < s.size := by omega
            have hbp := s[f + i].toNat_lt
            obtain ⟨_, hdg⟩ := HAT.out i hlt
            obtain ⟨hg0, hg1⟩ := digB_bd hdg
            have HV2 := Lib.hid (show capI v s[f + i] = numV ((dr s (f)).take (i + 1)) by rw [numV_step s (f) i hp, ← HV.out])
            have hcb := capI_bd v s[f + i] hv0 hg0
            have HCI := Lib.hid (show capI v s[f + i] = min (v * 10 + ((s[f + i].toNat : Int) - 48)) 9007199254740992 from rfl)
            clear hdg
            go_wp2
            all_goals
              go_round
              case rel => exact ⟨i + 1, capI v s[f + i], by omega, hcb.1, hcb.2, by rw [HCI.out]; (congr 1; omega), by go_num, HV2⟩
              case measure => simp [intOf] <;> omega
          · have HV := Lib.hid (show v = numV ((dr s (f)).take D) by rw [HV.out, show i = D by omega])
            by_cases h53 : v = 9007199254740992
            · have HE := Lib.hid (show tokT (dr s f) = .error 6 by rw [HT.out, HN.out, ← HV.out, if_pos h53])
              have h53' : (v == 9007199254740992) = true := by rw [h53]; rfl
              clear h53
              go_wp2
              rw [← HQ.out]
              exact bodyPost_ret (v := .tuple #[.agg #[.int .i64 0, .string ⟨#[]⟩, .int .i64 0, .int .i64 0, .bool false], .int .i64 0, .int .i64 6]) (by simp [results, Tryd.results23, go_sem, d0, d1, d2, d3, d4]) rfl ⟨ROneE.no HE.out, bel_s5 HR2.out.2.2⟩
            · have HE := Lib.hid (show tokT (dr s f) = .ok (3, [], v, (f - f) + D) by rw [HT.out, HN.out, ← HV.out, if_neg h53]; rfl)
              have h53' : (v == 9007199254740992) = false := by rw [beq_eq_false_iff_ne]; exact h53
              clear h53
              go_wp2
              rw [← HQ.out]
              exact bodyPost_ret (v := .tuple #[.agg #[.int .i64 3, .string ⟨#[]⟩, .int .i64 v, .int .i64 (f : Nat), .bool false], .int .i64 ((f : Int) + (D : Int)), .int .i64 0]) (by simp [results, Tryd.results23, go_sem, d0, d1, d2, d3, d4]) rfl ⟨ROneE.yes HE.out rfl (by omega), bel_s5 HR2.out.2.2⟩
    | false =>
      have HG := Lib.hid (show ¬ (D = 0 ∨ hd (dr s f) 48 = true ∧ (false = true ∨ 1 < D)) by rw [hq]; simp; omega)
      rw [hq] at h48
      clear hq
      go_enter Tryd.func23, Tryd.ntmps23
      generalize hQ : bodyPost Tryd.prog Tryd.f23 (ROne s f w) = Q
      have HQ := Lib.hid hQ; clear hQ
      have HN := Lib.hid (HN.out.trans (if_neg (by exact HG.out)))
      go_wp2_with (first | (go_at_call 41; refine (hna _).mono ?_; rintro e w2 ⟨rfl, hb⟩; have HR2 := Lib.hid (HR.out.bel hb); clear hb; obtain ⟨⟨z1, z2⟩, ⟨c0, c1, c2, c3, c4⟩, ⟨f0, f1, f2, f3, f4⟩, d0, d1, d2, d3, d4⟩ := HR2.out.cells) | (go_at_call 42; refine (hdf _).mono ?_; rintro e w' ⟨rfl, rfl⟩))
      go_loop [14, 15] (fun x y => ∃ (i : Nat) (v : Int), i ≤ D ∧ 0 ≤ v ∧ v ≤ 9007199254740992 ∧ x = .int .i64 v ∧ y = .int .i64 i ∧ Hid (v = numV ((dr s (f)).take i))) (fun _ y => D - (intOf y).toNat)
      case atStart => exact ⟨0, 0, by omega, by omega, by omega, rfl, rfl, Lib.hid rfl⟩
      case round =>
        obtain ⟨i, v, hi, hv0, hv1, rfl, rfl, HV⟩ := hrel
        by_cases hlt : i < D
        · have hp : f + i < s.size := by omega
          have hbp := s[f + i].toNat_lt
          obtain ⟨_, hdg⟩ := HAT.out i hlt
          obtain ⟨hg0, hg1⟩ := digB_bd hdg
          have HV2 := Lib.hid (show capI v s[f + i] = numV ((dr s (f)).take (i + 1)) by rw [numV_step s (f) i hp, ← HV.out])
          have hcb := capI_bd v s[f + i] hv0 hg0
          have HCI := Lib.hid (show capI v s[f + i] = min (v * 10 + ((s[f + i].toNat : Int) - 48)) 9007199254740992 from rfl)
          clear hdg
          go_wp2
          all_goals
            go_round
            case rel => exact ⟨i + 1, capI v s[f + i], by omega, hcb.1, hcb.2, by rw [HCI.out]; (congr 1; omega), by go_num, HV2⟩
            case measure => simp [intOf] <;> omega
        · have HV := Lib.hid (show v = numV ((dr s (f)).take D) by rw [HV.out, show i = D by omega])
          by_cases h53 : v = 9007199254740992
          · have HE := Lib.hid (show tokT (dr s f) = .error 6 by rw [HT.out, HN.out, ← HV.out, if_pos h53])
            have h53' : (v == 9007199254740992) = true := by rw [h53]; rfl
            clear h53
            go_wp2
            rw [← HQ.out]
            exact bodyPost_ret (v := .tuple #[.agg #[.int .i64 0, .string ⟨#[]⟩, .int .i64 0, .int .i64 0, .bool false], .int .i64 0, .int .i64 6]) (by simp [results, Tryd.results23, go_sem, d0, d1, d2, d3, d4]) rfl ⟨ROneE.no HE.out, bel_s5 HR2.out.2.2⟩
          · have HE := Lib.hid (show tokT (dr s f) = .ok (3, [], v, (f - f) + D) by rw [HT.out, HN.out, ← HV.out, if_neg h53]; rfl)
            have h53' : (v == 9007199254740992) = false := by rw [beq_eq_false_iff_ne]; exact h53
            clear h53
            go_wp2
            rw [← HQ.out]
            exact bodyPost_ret (v := .tuple #[.agg #[.int .i64 3, .string ⟨#[]⟩, .int .i64 v, .int .i64 (f : Nat), .bool false], .int .i64 ((f : Int) + (D : Int)), .int .i64 0]) (by simp [results, Tryd.results23, go_sem, d0, d1, d2, d3, d4]) rfl ⟨ROneE.yes HE.out rfl (by omega), bel_s5 HR2.out.2.2⟩

end Go.Proofs.YtpcbcodmocmilaaDoor
