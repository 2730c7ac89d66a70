/- qlex: one, walked. -/
import Derived.Test.YtpcbcodmocmilaaGreatDoorG24
import Derived.Test.YtpcbcodmocmilaaGreatDoorWm
import Derived.Test.YtpcbcodmocmilaaGreatDoorWh
namespace Go.Proofs.YtpcbcodmocmilaaGreatDoor
open Go.RowKit

def OneP (l : List UInt8) (w : World) (e : Ending) (w' : World) : Prop := OneE l e ∧ Bel w.heap.size w w'
set_option maxRecDepth 100000 in
set_option maxHeartbeats 2000000 in
theorem one_str (s : ByteArray) (w : World) (hs : s.size ≤ 1000000) (h0 : 0 < s.size) (hc : s[0] = 34 ∨ s[0] = 39) :
    Calls Tryz.prog 50 #[.string s] w (OneP s.data.toList w) := by
  have HE := Lib.hid (tokT_str s h0 hc)
  have htx := fun w => text_any s s[0] w hs h0 rfl
  have hq : ((s[0].toNat : Int) == 34) = true ∨ (((s[0].toNat : Int) == 34) = false ∧ ((s[0].toNat : Int) == 39) = true) := by
    rcases hc with hc | hc
    · exact .inl (by rw [hc]; rfl)
    · exact .inr ⟨by rw [hc]; rfl, by rw [hc]; rfl⟩
  clear hc
  cases ht : txtF s.size s[0] (dr s 1) with
  | none =>
    have HE := Lib.hid (show tokT s.data.toList = .error 3 by rw [HE.out, ht])
    rw [ht] at htx
    clear ht
    rcases hq with hq | ⟨hq, hq2⟩
    all_goals
      go_enter Tryz.func50, Tryz.ntmps50
      generalize hQ : bodyPost Tryz.prog Tryz.f50 (OneP s.data.toList w) = Q
      have HQ := Lib.hid hQ; clear hQ
      go_wp2_with (go_at_call 73; refine (htx _).mono ?_; rintro e w2 ⟨rfl, hb⟩; obtain ⟨hc, hf⟩ := belcell hb; have HB := Lib.hid hb; clear hb)
      rw [← HQ.out]
      exact bodyPost_ret (v := .tuple #[.agg #[.int .i64 0, .string ⟨#[]⟩, .int .i64 0, .int .i64 0, .bool false], .int .i64 0, .int .i64 3]) (by simp [results, Tryz.results50, go_sem, hc]) rfl ⟨OneE.no HE.out _ _ _ _, bel_set5 HB.out⟩
  | some tk =>
    obtain ⟨t, k⟩ := tk
    have HE := Lib.hid (show tokT s.data.toList = .ok (4, t, 0, k + 1) by rw [HE.out, ht])
    rw [ht] at htx
    clear ht
    have hk1 : (((k + 1 : Nat) : Int) == 0) = false := by simp; omega
    rcases hq with hq | ⟨hq, hq2⟩
    all_goals
      go_enter Tryz.func50, Tryz.ntmps50
      generalize hQ : bodyPost Tryz.prog Tryz.f50 (OneP s.data.toList w) = Q
      have HQ := Lib.hid hQ; clear hQ
      go_wp2_with (go_at_call 73; refine (htx _).mono ?_; rintro e w2 ⟨rfl, hb⟩; obtain ⟨hc, hf⟩ := belcell hb; have HB := Lib.hid hb; clear hb)
      rw [← HQ.out]
      exact bodyPost_ret (v := .tuple #[.agg #[.int .i64 4, .string (bs t), .int .i64 0, .int .i64 0, .bool false], .int .i64 ((k + 1 : Nat) : Int), .int .i64 0]) (by simp [results, Tryz.results50, go_sem, hc]) rfl ⟨OneE.yes HE.out rfl rfl, bel_set5 HB.out⟩


theorem nine (s : ByteArray) (h0 : 0 < s.size) (hc : ¬ (s[0] = 34 ∨ s[0] = 39)) : ((s[0].toNat : Int) == 34) = false ∧ ((s[0].toNat : Int) == 39) = false :=
  ⟨u8_ne (n := 34) (fun h => hc (.inl h)) (by omega), u8_ne (n := 39) (fun h => hc (.inr h)) (by omega)⟩
set_option maxRecDepth 100000 in
set_option maxHeartbeats 2000000 in
theorem one_num (s : ByteArray) (w : World) (hs : s.size ≤ 1000000) (h0 : 0 < s.size) (hc : ¬ (s[0] = 34 ∨ s[0] = 39)) (hd : isDig s[0] = true ∨ s[0] = 45) :
    Calls Tryz.prog 50 #[.string s] w (OneP s.data.toList w) := by
  have HE := Lib.hid (tokT_num s h0 hc hd)
  have hnu := fun w => lexnumber_any s w (by omega)
  obtain ⟨hq1, hq2⟩ := nine s h0 hc
  have hq : digB (s[0].toNat : Int) = true ∨ (digB (s[0].toNat : Int) = false ∧ ((s[0].toNat : Int) == 45) = true) := by
    cases hx : digB (s[0].toNat : Int) with
    | true => exact .inl rfl
    | false =>
      rw [digB_eq] at hx
      rcases hd with hd | hd
      · rw [hx] at hd; cases hd
      · exact .inr ⟨rfl, by rw [hd]; rfl⟩
  clear hc hd
  unfold NumE at hnu
  cases ht : numT s.data.toList with
  | error x =>
    have HE := Lib.hid (show tokT s.data.toList = .error x by rw [HE.out, ht])
    rw [ht] at hnu
    clear ht
    rcases hq with hq | ⟨hq, hq3⟩
    all_goals
      have HDG := Lib.hid hq
      clear hq
      go_enter Tryz.func50, Tryz.ntmps50
      generalize hQ : bodyPost Tryz.prog Tryz.f50 (OneP s.data.toList w) = Q
      have HQ := Lib.hid hQ; clear hQ
      go_wp2_with (first | (go_at_call 74; refine (qdig_at _ _ _ HDG).mono ?_; rintro e w' ⟨rfl, rfl⟩) | (go_at_call 75; refine (hnu _).mono ?_; rintro e w' ⟨⟨v, m, rfl⟩, rfl⟩))
      rw [← HQ.out]
      exact bodyPost_ret (v := .tuple #[.agg #[.int .i64 3, .string ⟨#[]⟩, .int .i64 v, .int .i64 0, .bool false], .int .i64 m, .int .i64 x]) (by simp [results, Tryz.results50, go_sem]) rfl ⟨OneE.no HE.out _ _ _ _, bel_lit⟩
  | ok vn =>
    obtain ⟨v, n⟩ := vn
    have HE := Lib.hid (show tokT s.data.toList = .ok (3, [], v, n) by rw [HE.out, ht])
    rw [ht] at hnu
    clear ht
    rcases hq with hq | ⟨hq, hq3⟩
    all_goals
      have HDG := Lib.hid hq
      clear hq
      go_enter Tryz.func50, Tryz.ntmps50
      generalize hQ : bodyPost Tryz.prog Tryz.f50 (OneP s.data.toList w) = Q
      have HQ := Lib.hid hQ; clear hQ
      go_wp2_with (first | (go_at_call 74; refine (qdig_at _ _ _ HDG).mono ?_; rintro e w' ⟨rfl, rfl⟩) | (go_at_call 75; refine (hnu _).mono ?_; rintro e w' ⟨rfl, rfl⟩))
      rw [← HQ.out]
      exact bodyPost_ret (v := .tuple #[.agg #[.int .i64 3, .string ⟨#[]⟩, .int .i64 v, .int .i64 0, .bool false], .int .i64 (n : Nat), .int .i64 0]) (by simp [results, Tryz.results50, go_sem]) rfl ⟨OneE.yes HE.out rfl rfl, bel_lit⟩

theorem nin2 (s : ByteArray) (h0 : 0 < s.size) (hd : ¬ (isDig s[0] = true ∨ s[0] = 45)) : digB (s[0].toNat : Int) = false ∧ ((s[0].toNat : Int) == 45) = false :=
  ⟨by rw [digB_eq]; cases h : isDig s[0] with | true => exact absurd (.inl h) hd | false => rfl, u8_ne (n := 45) (fun h => hd (.inr h)) (by omega)⟩
theorem nameLen_at (s : ByteArray) (m : Nat) (w : World) (hs : s.size ≤ 9223372036854775000) (h : Hid (nameL s.data.toList = m)) :
    Calls Tryz.prog 76 #[.string s] w fun e w' => e = .returned (.int .i64 m) ∧ w = w' := by
  rw [← h.out]; exact nameLen_any s w hs
set_option maxRecDepth 100000 in
set_option maxHeartbeats 2000000 in
theorem one_nam (s : ByteArray) (w : World) (hs : s.size ≤ 1000000) (h0 : 0 < s.size) (hc : ¬ (s[0] = 34 ∨ s[0] = 39)) (hd : ¬ (isDig s[0] = true ∨ s[0] = 45)) :
    Calls Tryz.prog 50 #[.string s] w (OneP s.data.toList w) := by
  obtain ⟨hq1, hq2⟩ := nine s h0 hc
  obtain ⟨hq3, hq4⟩ := nin2 s h0 hd
  have HDG := Lib.hid hq3
  have hnl := nameL_le s.data.toList
  rw [len_toList] at hnl
  obtain ⟨k, hk⟩ : ∃ k, nameL s.data.toList = k := ⟨_, rfl⟩
  rw [hk] at hnl
  rcases Nat.eq_zero_or_pos k with hk0 | hk0
  · have HE := Lib.hid (tokT_sgn s h0 hc hd (by omega))
    have HNL := Lib.hid (show nameL s.data.toList = 0 by omega)
    clear hc hd hq3 hk hk0 hnl
    have hsz : s.size ≤ 9223372036854775000 := by omega
    go_enter Tryz.func50, Tryz.ntmps50
    generalize hQ : bodyPost Tryz.prog Tryz.f50 (OneP s.data.toList w) = Q
    have HQ := Lib.hid hQ; clear hQ
    go_wp2_with (first | (go_at_call 74; refine (qdig_at _ _ _ HDG).mono ?_; rintro e w' ⟨rfl, rfl⟩) | (go_at_call 76; refine (nameLen_at s 0 _ hsz HNL).mono ?_; rintro e w' ⟨rfl, rfl⟩) | (go_at_call 77; refine (signs_any _).mono ?_; rintro e w' ⟨rfl, rfl⟩))
    go_loop [13, 62] (fun _ v => ∃ i : Nat, i ≤ 21 ∧ v = .int .i64 i ∧ Hid (∀ j (hj : j < 21), j < i → preB s.data.toList (signsL[j]'(by rw [sg_len]; exact hj)) = false)) (fun _ v => 21 - (intOf v).toNat)
    case atStart => exact ⟨0, by omega, rfl, Lib.hid (fun j _ h => absurd h (by omega))⟩
    case round =>
      obtain ⟨i, hi, rfl, HI⟩ := hrel
      by_cases hlt : i < 21
      · obtain ⟨x, hx⟩ : ∃ x, x = signsL[i]'(by rw [sg_len]; exact hlt) := ⟨_, rfl⟩
        have ci : ((w.alloc (.cells #[.int .i64 0, .string ⟨#[]⟩, .int .i64 0, .int .i64 0, .bool false] 92)).alloc (.cells sgA 9)).cell? ⟨w.heap.size + 1, i, none⟩ = some (.string (bs x)) := by
          rw [(Blk.new1 w _ 9 sgA).cell i, sgA_get i hlt, hx]
        have hxs : (bs x).size ≤ 2 ∧ 0 < (bs x).size := by
          rw [← len_toList, bs_list, hx]
          exact ⟨(show ∀ y ∈ signsL, y.length ≤ 2 by decide) _ (List.getElem_mem _), (show ∀ y ∈ signsL, 0 < y.length by decide) _ (List.getElem_mem _)⟩
        have HXL := Lib.hid (show ((bs x).size : Int) = (x.length : Nat) by rw [← len_toList, bs_list])
        obtain ⟨hxs1, hxs2⟩ := hxs
        cases hp : preB s.data.toList x with
        | true =>
          have HE := Lib.hid (show tokT s.data.toList = .ok (1, x, 0, x.length) by
            rw [HE.out, find_from s.data.toList i hlt (by rw [← hx]; exact hp) HI.out, hx])
          have HP := Lib.hid (show preB s.data.toList (bs x).data.toList = true by rw [bs_list]; exact hp)
          clear hp hx
          go_wp2_with (go_at_call 78; refine (hp_at _ _ _ _ HP).mono ?_; rintro e w' ⟨rfl, rfl⟩)
          rw [← HQ.out]
          exact bodyPost_ret (v := .tuple #[.agg #[.int .i64 1, .string (bs x), .int .i64 0, .int .i64 0, .bool false], .int .i64 (bs x).size, .int .i64 0]) (by simp [results, Tryz.results50, go_sem]) rfl ⟨OneE.yes HE.out rfl HXL.out, bel_lit2⟩
        | false =>
          have HP := Lib.hid (show preB s.data.toList (bs x).data.toList = false by rw [bs_list]; exact hp)
          have HI := Lib.hid (show ∀ j (hj : j < 21), j < i + 1 → preB s.data.toList (signsL[j]'(by rw [sg_len]; exact hj)) = false by
            intro j hj hji
            by_cases e : j = i
            · subst e; rw [← hx]; exact hp
            · exact HI.out j hj (by omega))
          clear hp hx
          go_wp2_with (go_at_call 78; refine (hp_at _ _ _ _ HP).mono ?_; rintro e w' ⟨rfl, rfl⟩)
          go_round
          case rel => exact ⟨i + 1, by omega, by go_num, HI⟩
          case measure => simp [intOf] <;> omega
      · have HE := Lib.hid (show tokT s.data.toList = .error 3 by rw [HE.out, find_no s.data.toList (fun j hj => HI.out j hj (by omega))])
        go_wp2
        rw [← HQ.out]
        exact bodyPost_ret (v := .tuple #[.agg #[.int .i64 0, .string ⟨#[]⟩, .int .i64 0, .int .i64 0, .bool false], .int .i64 0, .int .i64 3]) (by simp [results, Tryz.results50, go_sem]) rfl ⟨OneE.no HE.out _ _ _ _, bel_lit2⟩
  · have HE := Lib.hid (show tokT s.data.toList = .ok (2, s.data.toList.take k, 0, k) by rw [tokT_nam s h0 hc hd (by omega), hk])
    have HNL := Lib.hid hk
    have hsz : s.size ≤ 9223372036854775000 := by omega
    clear hc hd hq3 hk
    go_enter Tryz.func50, Tryz.ntmps50
    generalize hQ : bodyPost Tryz.prog Tryz.f50 (OneP s.data.toList w) = Q
    have HQ := Lib.hid hQ; clear hQ
    go_wp2_with (first | (go_at_call 74; refine (qdig_at _ _ _ HDG).mono ?_; rintro e w' ⟨rfl, rfl⟩) | (go_at_call 76; refine (nameLen_at s k _ hsz HNL).mono ?_; rintro e w' ⟨rfl, rfl⟩))
    rw [← HQ.out]
    exact bodyPost_ret (v := .tuple #[.agg #[.int .i64 2, .string (s.extract 0 k), .int .i64 0, .int .i64 0, .bool false], .int .i64 k, .int .i64 0]) (by simp [results, Tryz.results50, go_sem]) rfl ⟨OneE.yes HE.out (bs_of (ext_take s k)) rfl, bel_lit⟩

theorem one_any (s : ByteArray) (w : World) (hs : s.size ≤ 1000000) (h0 : 0 < s.size) :
    Calls Tryz.prog 50 #[.string s] w (OneP s.data.toList w) := by
  by_cases hc : s[0] = 34 ∨ s[0] = 39
  · exact one_str s w hs h0 hc
  · by_cases hd : isDig s[0] = true ∨ s[0] = 45
    · exact one_num s w hs h0 hc hd
    · exact one_nam s w hs h0 hc hd

end Go.Proofs.YtpcbcodmocmilaaGreatDoor
