/- qlex: numberOf. -/
import Derived.Test.YtpcbcodmocmilaaGreatDoorRG18
import Derived.Test.YtpcbcodmocmilaaGreatDoorRG16
namespace Go.Proofs.YtpcbcodmocmilaaGreatDoor
open Go.RowKit

/-- The number's state between two digits. -/
def NI (v n e : Int) : Prop := (e = 0 ∧ n = v ∧ 0 ≤ n ∧ n ≤ 9007199254740991) ∨ (e = 6 ∧ n = 9007199254740991 ∧ v = 9007199254740992)
theorem NI.bd {v n e : Int} (h : NI v n e) : 0 ≤ n ∧ n ≤ 9007199254740991 := by unfold NI at h; omega
theorem NI.low {v n e : Int} {c : UInt8} (h : NI v n e) (hc : 48 ≤ (c.toNat : Int)) (h1 : n * 10 + ((c.toNat : Int) - 48) ≤ 9007199254740991) : NI (capI v c) (n * 10 + ((c.toNat : Int) - 48)) e := by
  unfold NI at *; unfold capI; omega
theorem NI.high {v n e : Int} {c : UInt8} (h : NI v n e) (hc : 48 ≤ (c.toNat : Int)) (h1 : 9007199254740991 < n * 10 + ((c.toNat : Int) - 48)) : NI (capI v c) 9007199254740991 6 := by
  unfold NI at *; unfold capI; omega
/-- What is returned of a number. -/
def NumE (l : List UInt8) (e : Ending) : Prop :=
  match numT l with
  | .error x => ∃ v m : Int, e = .returned (.tuple #[.int .i64 v, .int .i64 m, .int .i64 x])
  | .ok (v, m) => e = .returned (.tuple #[.int .i64 v, .int .i64 (m : Nat), .int .i64 0])
theorem NumE.err {l : List UInt8} {x : Int} (h : numT l = .error x) (v m : Int) : NumE l (.returned (.tuple #[.int .i64 v, .int .i64 m, .int .i64 x])) := by
  unfold NumE; rw [h]; exact ⟨v, m, rfl⟩
theorem NumE.good {l : List UInt8} {v u : Int} {m : Nat} {k : Int} (h : numT l = .ok (v, m)) (hu : u = v) (hk : k = m) : NumE l (.returned (.tuple #[.int .i64 u, .int .i64 k, .int .i64 0])) := by
  unfold NumE; rw [h, hu, hk]
set_option maxRecDepth 100000 in
set_option maxHeartbeats 4000000 in
theorem number_true (s : ByteArray) (w : World) (hs : s.size ≤ 9223372036854775000) (hb : hd s.data.toList 45 = true) :
    Calls Tryz.prog 75 #[.string s] w fun e w' => NumE s.data.toList e ∧ w = w' := by
  have HT := Lib.hid (numT_t s hb)
  have HPR := Lib.hid (show preB s.data.toList (⟨#[45]⟩ : ByteArray).data.toList = true by rw [show (⟨#[45]⟩ : ByteArray).data.toList = [45] from rfl, preB_one]; exact hb)
  have hD : 1 + digN (dr s 1) ≤ s.size := digN_bd s 1 (by have : 0 < s.size := hd_lt (s := s) (p := 0) (c := 45) (by simpa [dr] using hb); omega)
  clear hb
  go_enter Tryz.func75, Tryz.ntmps75
  go_wp2_with (go_at_call 78; refine (hp_at _ _ _ _ HPR).mono ?_; rintro e w' ⟨rfl, rfl⟩)
  go_loop [6, 8, 9] (fun u x y => ∃ (p : Nat) (n e : Int), 1 ≤ p ∧ p ≤ 1 + digN (dr s 1) ∧ NI (numV ((dr s 1).take (p - 1))) n e ∧ u = .int .i64 p ∧ x = .int .i64 n ∧ y = .int .i64 e) (fun u _ _ => s.size - (intOf u).toNat)
  case atStart => exact ⟨1, 0, 0, by omega, by omega, .inl ⟨rfl, rfl, by omega, by omega⟩, rfl, rfl, rfl⟩
  case round =>
    obtain ⟨p, n, e, hpa, hpD, hI, rfl, rfl, rfl⟩ := hrel
    obtain ⟨hn0, hn1⟩ := hI.bd
    by_cases hk : p < 1 + digN (dr s 1)
    · obtain ⟨hlt, hdg⟩ := dig_at s 1 p hpa hk
      obtain ⟨hc0, hc1⟩ := digB_bd hdg
      have HB := Lib.hid hdg
      have HS := Lib.hid (show numV ((dr s 1).take (p + 1 - 1)) = capI (numV ((dr s 1).take (p - 1))) s[p] by rw [dr_snoc s 1 p hpa hlt, numV_snoc])
      clear hdg
      by_cases hbig : 9007199254740991 < n * 10 + ((s[p].toNat : Int) - 48)
      · have hI := hI.high hc0 hbig
        go_wp2_with (go_at_call 74; refine (qdig_at _ _ _ HB).mono ?_; rintro e w' ⟨rfl, rfl⟩)
        go_round
        case rel => exact ⟨p + 1, _, 6, by omega, by omega, by rw [HS.out]; exact hI, by go_num, rfl, rfl⟩
        case measure => simp [intOf] <;> omega
      · have hI := hI.low hc0 (by omega)
        go_wp2_with (go_at_call 74; refine (qdig_at _ _ _ HB).mono ?_; rintro e w' ⟨rfl, rfl⟩)
        go_round
        case rel => exact ⟨p + 1, _, e, by omega, by omega, by rw [HS.out]; exact hI, by go_num, rfl, rfl⟩
        case measure => simp [intOf] <;> omega
    · have hp : p = 1 + digN (dr s 1) := by omega
      have hpk : p - 1 = digN (dr s 1) := by omega
      rw [hpk] at hI
      by_cases hlt : p < s.size
      · have HB := Lib.hid (dig_end s 1 p hp hlt)
        have HP := Lib.hid hp
        have HD1 := Lib.hid hpk
        have HK := Lib.hid hk
        have hq : digN (dr s 1) ≤ p - 1 := by omega
        clear hpk hp hk
        · have hni := hI
          unfold NI at hni
          by_cases hD0 : p = 1
          · have HE := Lib.hid (show numT s.data.toList = .error 3 by rw [HT.out, if_pos (.inl (by have := HP.out; omega))])
            subst hD0
            clear HT
            go_wp2_with (go_at_call 74; refine (qdig_at _ _ _ HB).mono ?_; rintro e w' ⟨rfl, rfl⟩)
            exact bodyPost_ret (v := .tuple #[.int .i64 0, .int .i64 0, .int .i64 3]) (by simp [results, Tryz.results75, go_sem]) rfl ⟨NumE.err HE.out _ _, rfl⟩
          · have hp1 : 1 < p := by omega
            have hp2 : ((p : Int) == 1) = false := by simp; omega
            have hs0 : 1 < s.size := by omega
            cases hz : ((s[1].toNat : Int) == 48) with
            | true =>
              have hzd : hd (dr s 1) 48 = true := hd_t hs0 (by simpa using hz)
              have HE := Lib.hid (show numT s.data.toList = .error 3 by rw [HT.out, if_pos (.inr hzd)])
              clear HT hzd hD0
              go_wp2_with (go_at_call 74; refine (qdig_at _ _ _ HB).mono ?_; rintro e w' ⟨rfl, rfl⟩)
              exact bodyPost_ret (v := .tuple #[.int .i64 0, .int .i64 0, .int .i64 3]) (by simp [results, Tryz.results75, go_sem]) rfl ⟨NumE.err HE.out _ _, rfl⟩
            | false =>
              have hzd : hd (dr s 1) 48 = false := hd_f (by intro _ h; rw [beq_eq_false_iff_ne] at hz; exact hz h)
              have HT := Lib.hid (HT.out.trans (if_neg (by have := HP.out; intro h; rcases h with h | h; (· omega); (· simp [hzd] at h))))
              rcases hni with ⟨he, hn, _, _⟩ | ⟨he, hn, hv⟩
              · have HE := Lib.hid (show numT s.data.toList = .ok ((-n), p) by rw [HT.out, if_neg (by omega)]; rw [show 1 + digN (dr s 1) = p from HP.out.symm, hn])
                subst he
                clear HT hzd hD0 hn hI HP
                go_wp2_with (go_at_call 74; refine (qdig_at _ _ _ HB).mono ?_; rintro e w' ⟨rfl, rfl⟩)
                exact bodyPost_ret (v := .tuple #[.int .i64 (-n), .int .i64 p, .int .i64 0]) (by simp [results, Tryz.results75, go_sem]) rfl ⟨NumE.good HE.out rfl rfl, rfl⟩
              · have HE := Lib.hid (show numT s.data.toList = .error 6 by rw [HT.out, if_pos hv])
                subst he
                clear HT hzd hD0 hn hI HP hv
                go_wp2_with (go_at_call 74; refine (qdig_at _ _ _ HB).mono ?_; rintro e w' ⟨rfl, rfl⟩)
                exact bodyPost_ret (v := .tuple #[.int .i64 (-n), .int .i64 p, .int .i64 6]) (by simp [results, Tryz.results75, go_sem]) rfl ⟨NumE.err HE.out _ _, rfl⟩

      · have HP := Lib.hid hp
        have HD1 := Lib.hid hpk
        have HK := Lib.hid hk
        have hq : digN (dr s 1) ≤ p - 1 := by omega
        clear hpk hp hk
        · have hni := hI
          unfold NI at hni
          by_cases hD0 : p = 1
          · have HE := Lib.hid (show numT s.data.toList = .error 3 by rw [HT.out, if_pos (.inl (by have := HP.out; omega))])
            subst hD0
            clear HT
            go_wp2
            exact bodyPost_ret (v := .tuple #[.int .i64 0, .int .i64 0, .int .i64 3]) (by simp [results, Tryz.results75, go_sem]) rfl ⟨NumE.err HE.out _ _, rfl⟩
          · have hp1 : 1 < p := by omega
            have hp2 : ((p : Int) == 1) = false := by simp; omega
            have hs0 : 1 < s.size := by omega
            cases hz : ((s[1].toNat : Int) == 48) with
            | true =>
              have hzd : hd (dr s 1) 48 = true := hd_t hs0 (by simpa using hz)
              have HE := Lib.hid (show numT s.data.toList = .error 3 by rw [HT.out, if_pos (.inr hzd)])
              clear HT hzd hD0
              go_wp2
              exact bodyPost_ret (v := .tuple #[.int .i64 0, .int .i64 0, .int .i64 3]) (by simp [results, Tryz.results75, go_sem]) rfl ⟨NumE.err HE.out _ _, rfl⟩
            | false =>
              have hzd : hd (dr s 1) 48 = false := hd_f (by intro _ h; rw [beq_eq_false_iff_ne] at hz; exact hz h)
              have HT := Lib.hid (HT.out.trans (if_neg (by have := HP.out; intro h; rcases h with h | h; (· omega); (· simp [hzd] at h))))
              rcases hni with ⟨he, hn, _, _⟩ | ⟨he, hn, hv⟩
              · have HE := Lib.hid (show numT s.data.toList = .ok ((-n), p) by rw [HT.out, if_neg (by omega)]; rw [show 1 + digN (dr s 1) = p from HP.out.symm, hn])
                subst he
                clear HT hzd hD0 hn hI HP
                go_wp2
                exact bodyPost_ret (v := .tuple #[.int .i64 (-n), .int .i64 p, .int .i64 0]) (by simp [results, Tryz.results75, go_sem]) rfl ⟨NumE.good HE.out rfl rfl, rfl⟩
              · have HE := Lib.hid (show numT s.data.toList = .error 6 by rw [HT.out, if_pos hv])
                subst he
                clear HT hzd hD0 hn hI HP hv
                go_wp2
                exact bodyPost_ret (v := .tuple #[.int .i64 (-n), .int .i64 p, .int .i64 6]) (by simp [results, Tryz.results75, go_sem]) rfl ⟨NumE.err HE.out _ _, rfl⟩


set_option maxRecDepth 100000 in
set_option maxHeartbeats 4000000 in
theorem number_false (s : ByteArray) (w : World) (hs : s.size ≤ 9223372036854775000) (hb : hd s.data.toList 45 = false) :
    Calls Tryz.prog 75 #[.string s] w fun e w' => NumE s.data.toList e ∧ w = w' := by
  have HT := Lib.hid (numT_f s hb)
  have HPR := Lib.hid (show preB s.data.toList (⟨#[45]⟩ : ByteArray).data.toList = false by rw [show (⟨#[45]⟩ : ByteArray).data.toList = [45] from rfl, preB_one]; exact hb)
  have hD : 0 + digN (dr s 0) ≤ s.size := digN_bd s 0 (by omega)
  clear hb
  go_enter Tryz.func75, Tryz.ntmps75
  go_wp2_with (go_at_call 78; refine (hp_at _ _ _ _ HPR).mono ?_; rintro e w' ⟨rfl, rfl⟩)
  go_loop [6, 8, 9] (fun u x y => ∃ (p : Nat) (n e : Int), 0 ≤ p ∧ p ≤ 0 + digN (dr s 0) ∧ NI (numV ((dr s 0).take (p - 0))) n e ∧ u = .int .i64 p ∧ x = .int .i64 n ∧ y = .int .i64 e) (fun u _ _ => s.size - (intOf u).toNat)
  case atStart => exact ⟨0, 0, 0, by omega, by omega, .inl ⟨rfl, rfl, by omega, by omega⟩, rfl, rfl, rfl⟩
  case round =>
    obtain ⟨p, n, e, hpa, hpD, hI, rfl, rfl, rfl⟩ := hrel
    obtain ⟨hn0, hn1⟩ := hI.bd
    by_cases hk : p < 0 + digN (dr s 0)
    · obtain ⟨hlt, hdg⟩ := dig_at s 0 p hpa hk
      obtain ⟨hc0, hc1⟩ := digB_bd hdg
      have HB := Lib.hid hdg
      have HS := Lib.hid (show numV ((dr s 0).take (p + 1 - 0)) = capI (numV ((dr s 0).take (p - 0))) s[p] by rw [dr_snoc s 0 p hpa hlt, numV_snoc])
      clear hdg
      by_cases hbig : 9007199254740991 < n * 10 + ((s[p].toNat : Int) - 48)
      · have hI := hI.high hc0 hbig
        go_wp2_with (go_at_call 74; refine (qdig_at _ _ _ HB).mono ?_; rintro e w' ⟨rfl, rfl⟩)
        go_round
        case rel => exact ⟨p + 1, _, 6, by omega, by omega, by rw [HS.out]; exact hI, by go_num, rfl, rfl⟩
        case measure => simp [intOf] <;> omega
      · have hI := hI.low hc0 (by omega)
        go_wp2_with (go_at_call 74; refine (qdig_at _ _ _ HB).mono ?_; rintro e w' ⟨rfl, rfl⟩)
        go_round
        case rel => exact ⟨p + 1, _, e, by omega, by omega, by rw [HS.out]; exact hI, by go_num, rfl, rfl⟩
        case measure => simp [intOf] <;> omega
    · have hp : p = 0 + digN (dr s 0) := by omega
      have hpk : p - 0 = digN (dr s 0) := by omega
      rw [hpk] at hI
      by_cases hlt : p < s.size
      · have HB := Lib.hid (dig_end s 0 p hp hlt)
        have HP := Lib.hid hp
        have HD1 := Lib.hid hpk
        have HK := Lib.hid hk
        have hq : digN (dr s 0) ≤ p - 0 := by omega
        clear hpk hp hk
        · have hni := hI
          unfold NI at hni
          by_cases hD0 : p = 0
          · have HE := Lib.hid (show numT s.data.toList = .error 3 by rw [HT.out, if_pos (.inl (by have := HP.out; omega))])
            subst hD0
            clear HT
            go_wp2_with (go_at_call 74; refine (qdig_at _ _ _ HB).mono ?_; rintro e w' ⟨rfl, rfl⟩)
            exact bodyPost_ret (v := .tuple #[.int .i64 0, .int .i64 0, .int .i64 3]) (by simp [results, Tryz.results75, go_sem]) rfl ⟨NumE.err HE.out _ _, rfl⟩
          · have hp1 : 0 < p := by omega
            have hp2 : ((p : Int) == 0) = false := by simp; omega
            have hs0 : 0 < s.size := by omega
            cases hz : ((s[0].toNat : Int) == 48) with
            | true =>
              have hzd : hd (dr s 0) 48 = true := hd_t hs0 (by simpa using hz)
              by_cases hD1 : 1 < p
              · have HE := Lib.hid (show numT s.data.toList = .error 3 by rw [HT.out, if_pos (.inr ⟨hzd, by have := HP.out; omega⟩)])
                clear HT hzd hD0
                go_wp2_with (go_at_call 74; refine (qdig_at _ _ _ HB).mono ?_; rintro e w' ⟨rfl, rfl⟩)
                exact bodyPost_ret (v := .tuple #[.int .i64 0, .int .i64 0, .int .i64 3]) (by simp [results, Tryz.results75, go_sem]) rfl ⟨NumE.err HE.out _ _, rfl⟩
              · have hD2 : ¬ (1 : Int) < (p : Int) := by omega
                have HT := Lib.hid (HT.out.trans (if_neg (by have := HP.out; intro h; omega)))
                rcases hni with ⟨he, hn, _, _⟩ | ⟨he, hn, hv⟩
                · have HE := Lib.hid (show numT s.data.toList = .ok (n, p) by rw [HT.out, if_neg (by omega)]; rw [show 0 + digN (dr s 0) = p from HP.out.symm, hn])
                  subst he
                  clear HT hzd hD0 hn hI HP
                  go_wp2_with (go_at_call 74; refine (qdig_at _ _ _ HB).mono ?_; rintro e w' ⟨rfl, rfl⟩)
                  exact bodyPost_ret (v := .tuple #[.int .i64 n, .int .i64 p, .int .i64 0]) (by simp [results, Tryz.results75, go_sem]) rfl ⟨NumE.good HE.out rfl rfl, rfl⟩
                · have HE := Lib.hid (show numT s.data.toList = .error 6 by rw [HT.out, if_pos hv])
                  subst he
                  clear HT hzd hD0 hn hI HP hv
                  go_wp2_with (go_at_call 74; refine (qdig_at _ _ _ HB).mono ?_; rintro e w' ⟨rfl, rfl⟩)
                  exact bodyPost_ret (v := .tuple #[.int .i64 n, .int .i64 p, .int .i64 6]) (by simp [results, Tryz.results75, go_sem]) rfl ⟨NumE.err HE.out _ _, rfl⟩
            | false =>
              have hzd : hd (dr s 0) 48 = false := hd_f (by intro _ h; rw [beq_eq_false_iff_ne] at hz; exact hz h)
              have HT := Lib.hid (HT.out.trans (if_neg (by have := HP.out; intro h; rcases h with h | h; (· omega); (· simp [hzd] at h))))
              rcases hni with ⟨he, hn, _, _⟩ | ⟨he, hn, hv⟩
              · have HE := Lib.hid (show numT s.data.toList = .ok (n, p) by rw [HT.out, if_neg (by omega)]; rw [show 0 + digN (dr s 0) = p from HP.out.symm, hn])
                subst he
                clear HT hzd hD0 hn hI HP
                go_wp2_with (go_at_call 74; refine (qdig_at _ _ _ HB).mono ?_; rintro e w' ⟨rfl, rfl⟩)
                exact bodyPost_ret (v := .tuple #[.int .i64 n, .int .i64 p, .int .i64 0]) (by simp [results, Tryz.results75, go_sem]) rfl ⟨NumE.good HE.out rfl rfl, rfl⟩
              · have HE := Lib.hid (show numT s.data.toList = .error 6 by rw [HT.out, if_pos hv])
                subst he
                clear HT hzd hD0 hn hI HP hv
                go_wp2_with (go_at_call 74; refine (qdig_at _ _ _ HB).mono ?_; rintro e w' ⟨rfl, rfl⟩)
                exact bodyPost_ret (v := .tuple #[.int .i64 n, .int .i64 p, .int .i64 6]) (by simp [results, Tryz.results75, go_sem]) rfl ⟨NumE.err HE.out _ _, rfl⟩

      · have HP := Lib.hid hp
        have HD1 := Lib.hid hpk
        have HK := Lib.hid hk
        have hq : digN (dr s 0) ≤ p - 0 := by omega
        clear hpk hp hk
        · have hni := hI
          unfold NI at hni
          by_cases hD0 : p = 0
          · have HE := Lib.hid (show numT s.data.toList = .error 3 by rw [HT.out, if_pos (.inl (by have := HP.out; omega))])
            subst hD0
            clear HT
            go_wp2
            exact bodyPost_ret (v := .tuple #[.int .i64 0, .int .i64 0, .int .i64 3]) (by simp [results, Tryz.results75, go_sem]) rfl ⟨NumE.err HE.out _ _, rfl⟩
          · have hp1 : 0 < p := by omega
            have hp2 : ((p : Int) == 0) = false := by simp; omega
            have hs0 : 0 < s.size := by omega
            cases hz : ((s[0].toNat : Int) == 48) with
            | true =>
              have hzd : hd (dr s 0) 48 = true := hd_t hs0 (by simpa using hz)
              by_cases hD1 : 1 < p
              · have HE := Lib.hid (show numT s.data.toList = .error 3 by rw [HT.out, if_pos (.inr ⟨hzd, by have := HP.out; omega⟩)])
                clear HT hzd hD0
                go_wp2
                exact bodyPost_ret (v := .tuple #[.int .i64 0, .int .i64 0, .int .i64 3]) (by simp [results, Tryz.results75, go_sem]) rfl ⟨NumE.err HE.out _ _, rfl⟩
              · have hD2 : ¬ (1 : Int) < (p : Int) := by omega
                have HT := Lib.hid (HT.out.trans (if_neg (by have := HP.out; intro h; omega)))
                rcases hni with ⟨he, hn, _, _⟩ | ⟨he, hn, hv⟩
                · have HE := Lib.hid (show numT s.data.toList = .ok (n, p) by rw [HT.out, if_neg (by omega)]; rw [show 0 + digN (dr s 0) = p from HP.out.symm, hn])
                  subst he
                  clear HT hzd hD0 hn hI HP
                  go_wp2
                  exact bodyPost_ret (v := .tuple #[.int .i64 n, .int .i64 p, .int .i64 0]) (by simp [results, Tryz.results75, go_sem]) rfl ⟨NumE.good HE.out rfl rfl, rfl⟩
                · have HE := Lib.hid (show numT s.data.toList = .error 6 by rw [HT.out, if_pos hv])
                  subst he
                  clear HT hzd hD0 hn hI HP hv
                  go_wp2
                  exact bodyPost_ret (v := .tuple #[.int .i64 n, .int .i64 p, .int .i64 6]) (by simp [results, Tryz.results75, go_sem]) rfl ⟨NumE.err HE.out _ _, rfl⟩
            | false =>
              have hzd : hd (dr s 0) 48 = false := hd_f (by intro _ h; rw [beq_eq_false_iff_ne] at hz; exact hz h)
              have HT := Lib.hid (HT.out.trans (if_neg (by have := HP.out; intro h; rcases h with h | h; (· omega); (· simp [hzd] at h))))
              rcases hni with ⟨he, hn, _, _⟩ | ⟨he, hn, hv⟩
              · have HE := Lib.hid (show numT s.data.toList = .ok (n, p) by rw [HT.out, if_neg (by omega)]; rw [show 0 + digN (dr s 0) = p from HP.out.symm, hn])
                subst he
                clear HT hzd hD0 hn hI HP
                go_wp2
                exact bodyPost_ret (v := .tuple #[.int .i64 n, .int .i64 p, .int .i64 0]) (by simp [results, Tryz.results75, go_sem]) rfl ⟨NumE.good HE.out rfl rfl, rfl⟩
              · have HE := Lib.hid (show numT s.data.toList = .error 6 by rw [HT.out, if_pos hv])
                subst he
                clear HT hzd hD0 hn hI HP hv
                go_wp2
                exact bodyPost_ret (v := .tuple #[.int .i64 n, .int .i64 p, .int .i64 6]) (by simp [results, Tryz.results75, go_sem]) rfl ⟨NumE.err HE.out _ _, rfl⟩


theorem lexnumber_any (s : ByteArray) (w : World) (hs : s.size ≤ 9223372036854775000) :
    Calls Tryz.prog 75 #[.string s] w fun e w' => NumE s.data.toList e ∧ w = w' := by
  cases hb : hd s.data.toList 45 with
  | true => exact number_true s w hs hb
  | false => exact number_false s w hs hb

end Go.Proofs.YtpcbcodmocmilaaGreatDoor
