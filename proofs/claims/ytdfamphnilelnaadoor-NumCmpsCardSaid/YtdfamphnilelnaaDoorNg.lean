/- ref10: Read. -/
import Derived.StillTailTactics
import Derived.Deep.RegionLaw
import Derived.Test.YtdfamphnilelnaaDoorNg1
namespace Go.Proofs.YtdfamphnilelnaaDoor
open Go.RowKit

set_option maxRecDepth 100000 in
set_option maxHeartbeats 8000000 in
theorem refRead_any (s : ByteArray) (w : World) (hs : s.size ≤ 50000) :
    Calls Tryd.prog 20 #[.string s] w (RdP w (splitL s.data.toList)) := by
  have hdg : ∀ (a : Nat) (w : World), a ≤ s.size → Calls Tryd.prog 27 #[.string s, .int .i64 a] w fun e w' => e = .returned (.int .i64 (digN (dr s a) : Nat)) ∧ w = w' := fun a w h => run_any s a w (by omega) h
  have HDG := Lib.hid hdg; clear hdg
  obtain ⟨i0, hi, hz0, hz1, hz2⟩ := info_parts info_int
  generalize hS : splitL s.data.toList = S
  have HS0 := Lib.hid hS; clear hS
  go_enter Tryd.func20, Tryd.ntmps20
  generalize hQ : bodyPost Tryd.prog Tryd.f20 (RdP w S) = Q
  have HQ := Lib.hid hQ; clear hQ
  let qd := bodyPost Tryd.prog Tryd.f20 (RdP w S)
  go_upto_region 3 with fail
  go_cut [20] (fun v wx => v = .bool (hd (dr s 0) 45) ∧ wx = ((w.alloc (.cells #[.bool false, .slice none 0 0, .int .i64 0, .int .i64 0] 47)).alloc (.cells #[.bool false, .slice none 0 0, .int .i64 0, .int .i64 0] 47)))
  case first =>
    as_aux_lemma =>
    go_wp2
    all_goals
      go_meet
      case rel => exact ⟨congrArg Value.bool (by first | exact hd_i' (show 0 < s.size by omega) rfl | exact (hd_o (show s.size ≤ 0 by omega)).symm), rfl⟩
  case rest =>
    obtain ⟨rfl, rfl⟩ := hcut
    go_upto_if 20 with fail
    go_cut [5] (fun v wx => ∃ (a : Nat) (m : Bool), v = .int .i64 a ∧ a ≤ s.size ∧ Hid (S = spl2 m (dr s a)) ∧ Hid (XS w wx m [] 0 0))
    case first =>
      as_aux_lemma =>
      cases h : hd (dr s 0) 45
      · have H := Lib.hid (show S = spl2 false (dr s 0) by rw [← HS0.out, splitL]; have h' : hd s.data.toList 45 = false := h; rw [h']; rfl); clear h
        go_wp2
        go_meet
        case rel => exact ⟨0, false, rfl, by omega, H, Lib.hid (XS.start w false)⟩
      · have hlt := hd_lt h
        have H := Lib.hid (show S = spl2 true (dr s 1) by rw [← HS0.out, splitL]; have h' : hd s.data.toList 45 = true := h; rw [h']; rfl); clear h
        go_wp2
        go_meet
        case rel => exact ⟨1, true, rfl, by omega, H, Lib.hid (XS.start w true)⟩
    case rest =>
      obtain ⟨a, m, rfl, ha, HS, HX⟩ := hcut
      clear HS0
      have hdg := fun w => HDG.out a w ha
      have hdb := digN_bd s a ha
      obtain ⟨v, hx, hr, ho, hb⟩ := HX.out
      obtain ⟨xsz, ⟨x0, x1, x2, x3⟩, y0, y1, y2, y3⟩ := hx.four
      obtain ⟨rsz, ⟨r0, r1, r2, r3⟩, q0, q1, q2, q3⟩ := hr.four
      have HO := Lib.hid ho; have HB := Lib.hid hb; have HBX := Lib.hid hx; have HBR := Lib.hid hr
      clear hx hr ho hb
      go_upto_region 7 with (go_at_call 27; refine (hdg _).mono ?_; rintro e w' ⟨rfl, rfl⟩)
      go_cut [36] (fun v wx => v = .bool (badI (dr s a)) ∧ wx = wc)
      case first =>
        as_aux_lemma =>
        have HBI := Lib.hid (show badI (dr s a) = (digN (dr s a) == 0 || decide (1 < digN (dr s a)) && hd (dr s a) 48) from rfl)
        generalize digN (dr s a) = d at *
        by_cases hz : d = 0
        · have hz' : ((d : Int) == 0) = true := by simp [hz]
          have HBI := Lib.hid (show badI (dr s a) = true by rw [HBI.out, hz]; rfl)
          clear hz
          go_wp2
          go_meet
          case rel => exact ⟨congrArg Value.bool HBI.out.symm, rfl⟩
        · have hz' : ((d : Int) == 0) = false := by simp [hz]
          by_cases h1 : 1 < d
          · have h0 : a < s.size := by omega
            have HBI := Lib.hid (show badI (dr s a) = hd (dr s a) 48 by rw [HBI.out, beq_eq_false_iff_ne.2 hz, decide_eq_true h1]; rfl)
            clear hz
            go_wp2
            go_meet
            case rel => exact ⟨congrArg Value.bool ((hd_i' (s := s) (p := a) (c := 48) h0 rfl).trans HBI.out.symm), rfl⟩
          · have HBI := Lib.hid (show badI (dr s a) = false by rw [HBI.out, beq_eq_false_iff_ne.2 hz, decide_eq_false h1]; rfl)
            clear hz
            go_wp2
            go_meet
            case rel => exact ⟨congrArg Value.bool HBI.out.symm, rfl⟩
      case rest =>
        obtain ⟨rfl, rfl⟩ := hcut
        cases hbi : badI (dr s a) with
        | true =>
          have HN := Lib.hid (HS.out.trans (show spl2 m (dr s a) = none by rw [spl2, if_pos hbi]))
          clear hbi hdg HS
          go_wp2
          rw [← HQ.out]
          refine bodyPost_ret (v := .tuple #[.agg #[.bool false, .slice none 0 0, .int .i64 0, .int .i64 0], .bool false]) (by simp [results, Tryd.results20, go_sem, r0, r1, r2, r3]) rfl ?_
          exact RdP.no HN.out (by have HW := HB; (repeat' (first | (with_reducible exact HW.out) | (with_reducible exact HB5.out) | (with_reducible refine Bel.setCell ?_ (by first | exact Nat.le_refl _ | (simp; omega) | omega | (simp <;> omega)) _) | (with_reducible refine Bel.alloc ?_ (by first | exact Nat.le_refl _ | (simp; omega) | omega | (simp <;> omega)) _) | (with_reducible refine Bel.drew ?_) | (with_reducible refine Bel.drewN ?_ _))))
        | false =>
          have HS3 := Lib.hid (HS.out.trans (show spl2 m (dr s a) = spl3 m ((dr s a).take (digN (dr s a))) (dr s (a + digN (dr s a))) by rw [spl2, hbi, dr_dr]; rfl))
          have hwl : ((dr s a).take (digN (dr s a))).length = digN (dr s a) := by rw [List.length_take, dr_len]; omega
          generalize digN (dr s a) = d at *
          clear hbi HS hdg x0 x1 x2 x3 y0 y1 y2 y3 r0 r1 r2 r3 q0 q1 q2 q3 xsz rsz HO HB HBX HBR
          go_wp2
          go_loopw [7] (fun i wr => ∃ k : Nat, k ≤ d ∧ i = .int .i64 k ∧ Hid (XS w wr m (dI ((dr s a).take k)) 0 0)) (fun i _ => d - (intOf i).toNat)
          case atStart => exact ⟨0, by omega, rfl, HX⟩
          case round =>
            clear HX
            obtain ⟨k, hk, rfl, HX⟩ := hrel
            obtain ⟨v, hx, hr, ho, hb⟩ := HX.out
            obtain ⟨xsz, ⟨x0, x1, x2, x3⟩, y0, y1, y2, y3⟩ := hx.four
            obtain ⟨rsz, ⟨r0, r1, r2, r3⟩, q0, q1, q2, q3⟩ := hr.four
            have HO := Lib.hid ho; have HB := Lib.hid hb; have HBX := Lib.hid hx; have HBR := Lib.hid hr
            clear hx hr ho hb
            have hbz := HB.out.size
            have hdl : (dI ((dr s a).take k)).length ≤ k := by unfold dI; rw [List.length_map, List.length_take]; omega
            by_cases hlt : k < d
            · have HSN := Lib.hid (dI_snoc (s := s) (a := a) (k := k) (by omega))
              have hak : a + k < s.size := by omega
              have hw1 : (a : Int) + k < s.size := by omega
              have hwn : ((a : Int) + k).toNat = a + k := by omega
              have hw0 : 0 ≤ (a : Int) + k := by omega
              have h256 := s[a + k].toNat_lt
              go_wp2
              have HXE := Lib.hid (wrap_dig s[a + k])
              have hw : IntKind.i64.wrap ((a : Int) + k) = (a : Int) + k := IntWalk.i64_in _ (by omega)
              have hQ := HQ.out; subst hQ; clear HQ
              go_region_law ((refine step_append_any _ (by rfl) _ _ _ (by rfl) (w.heap.size + 2) 3 i0 (.int .i64 0) 1 8 Tryd.underlying45 hi hz0 hz1 hz2 (by rfl) (by decide) v _ _ (by rfl) (World.ownsRow.drew (HO.out.alloc _)) (wr.heap.size + 1) (some ⟨wr.heap.size, 0, none⟩) 1 1 [.int .i64 (IntKind.i64.wrap (IntKind.i64.wrap (s[a + k].toNat : Int) - 48))] (by rfl) ⟨rfl, fun _ => ⟨_, rfl, by show wr.heap.size < _; omega, fun j u hu => cell_one_new wr (.int .i64 (IntKind.i64.wrap (IntKind.i64.wrap (s[a + k].toNat : Int) - 48))) 3 j u hu⟩⟩ (by simp [Value.oneCell']) (by unfold maxLen; omega) (by omega) (by simp; omega) ?_; intro v' w2 hown2 hg2 hat2; obtain ⟨A2, c2, rfl, _⟩ := Rd.of_own hown2; have HA := Lib.hid (XS.app1 HBX.out HBR.out HO.out HB.out hg2 hown2); clear hown2 hg2 hat2 x0 x1 x2 x3 y0 y1 y2 y3 r0 r1 r2 r3 q0 q1 q2 q3 xsz rsz; obtain ⟨xsz, ⟨x0, x1, x2, x3⟩, y0, y1, y2, y3⟩ := HA.out.1.four))
              all_goals
                clear hw
                go_wp2
                go_roundw
                case rel => exact ⟨k + 1, by omega, by go_num, Lib.hid (by have h := HA.out.2.2; simp only [List.length_append, List.length_map, List.length_cons, List.length_nil, Nat.zero_add] at h; rw [HSN.out, ← HXE.out]; exact h)⟩
                case measure => simp [intOf]; omega
            · have hkd : k = d := by omega
              have HXD := Lib.hid (show XS w wr m (dI ((dr s a).take d)) 0 0 by have := HX.out; rw [hkd] at this; exact this)
              clear hkd HX
              have HXD := Lib.hid (show XS w (wr.setCell ⟨w.heap.size + 1, 2, none⟩ (.int .i64 d)) m (dI ((dr s a).take d)) (((dr s a).take d).length : Int) 0 by rw [hwl]; exact XS.set2 HXD.out d)
              go_upto_region 15 with fail
              go_cut [5, 69] (fun v v' wx => ∃ (a1 : Nat) (W : L8), v = .int .i64 a1 ∧ a1 ≤ s.size ∧ v' = .bool (hd (dr s a1) 46) ∧ W.length ≤ s.size ∧ Hid (S = spl3 m W (dr s a1)) ∧ Hid (XS w wx m (dI W) (W.length : Int) 0))
              case first =>
                as_aux_lemma =>
                go_wp2
                all_goals
                  go_meet
                  case rel => exact ⟨a + d, (dr s a).take d, by go_num, by omega, congrArg Value.bool (by first | exact hd_i' (show a + d < s.size by omega) rfl | exact (hd_o (show s.size ≤ a + d by omega)).symm), by rw [hwl]; omega, HS3, HXD⟩
              case rest =>
                clear HXD HS3 hwl hlt hk hdl hbz hdb x0 x1 x2 x3 y0 y1 y2 y3 r0 r1 r2 r3 q0 q1 q2 q3 xsz rsz HO HB HBX HBR ha
                obtain ⟨a, W, rfl, ha, rfl, hWl, HS, HX⟩ := hcut
                obtain ⟨v, hx, hr, ho, hb⟩ := HX.out
                obtain ⟨xsz, ⟨x0, x1, x2, x3⟩, y0, y1, y2, y3⟩ := hx.four
                obtain ⟨rsz, ⟨r0, r1, r2, r3⟩, q0, q1, q2, q3⟩ := hr.four
                have HO := Lib.hid ho; have HB := Lib.hid hb; have HBX := Lib.hid hx; have HBR := Lib.hid hr
                clear hx hr ho hb
                have hbz := HB.out.size
                go_upto_if 69 with fail
                go_cut [5] (fun v wx => ∃ (a2 : Nat) (F : L8), v = .int .i64 a2 ∧ a2 ≤ s.size ∧ F.length ≤ s.size ∧ Hid (S = spl4 m W F (dr s a2)) ∧ Hid (XS w wx m (dI (W ++ F)) (W.length : Int) 0))
                case first =>
                  as_aux_lemma =>
                  cases h46 : hd (dr s a) 46 with
                  | false =>
                    have HS2 := Lib.hid (HS.out.trans (by rw [spl3, h46]; rfl : _ = spl4 m W [] (dr s a)))
                    clear h46
                    go_wp2
                    go_meet
                    case rel => exact ⟨a, [], rfl, ha, by simp, HS2, Lib.hid (by rw [List.append_nil]; exact HX.out)⟩
                  | true =>
                    have hl := hd_lt h46
                    have hdg : ∀ w, Calls Tryd.prog 27 #[.string s, .int .i64 ((a : Int) + 1)] w fun e w' => e = .returned (.int .i64 (digN (dr s (a + 1)) : Nat)) ∧ w = w' := fun w => HDG.out (a + 1) w (by omega)
                    have hdb := digN_bd s (a + 1) (by omega)
                    by_cases hz : digN (dr s (a + 1)) = 0
                    · have HN := Lib.hid (HS.out.trans (by rw [spl3, if_pos h46, dr_dr, if_pos hz] : _ = none))
                      rw [hz] at hdg
                      clear hz h46 HS hdb
                      go_wp2_with (go_at_call 27; refine (hdg _).mono ?_; rintro e w' ⟨rfl, rfl⟩)
                      rw [← HQ.out]
                      refine bodyPost_ret (v := .tuple #[.agg #[.bool false, .slice none 0 0, .int .i64 0, .int .i64 0], .bool false]) (by simp [results, Tryd.results20, go_sem, r0, r1, r2, r3]) rfl ?_
                      exact RdP.no HN.out (by have HW := HB; (repeat' (first | (with_reducible exact HW.out) | (with_reducible exact HB5.out) | (with_reducible refine Bel.setCell ?_ (by first | exact Nat.le_refl _ | (simp; omega) | omega | (simp <;> omega)) _) | (with_reducible refine Bel.alloc ?_ (by first | exact Nat.le_refl _ | (simp; omega) | omega | (simp <;> omega)) _) | (with_reducible refine Bel.drew ?_) | (with_reducible refine Bel.drewN ?_ _))))
                    · have HS2 := Lib.hid (HS.out.trans (by rw [spl3, if_pos h46, dr_dr, if_neg hz, dr_dr] : _ = spl4 m W ((dr s (a + 1)).take (digN (dr s (a + 1)))) (dr s (a + (digN (dr s (a + 1)) + 1)))))
                      have hfl : ((dr s (a + 1)).take (digN (dr s (a + 1)))).length = digN (dr s (a + 1)) := by rw [List.length_take, dr_len]; omega
                      generalize digN (dr s (a + 1)) = d at *
                      have hz' : ((d : Int) == 0) = false := beq_eq_false_iff_ne.2 (by omega)
                      clear hz h46 HS x0 x1 x2 x3 y0 y1 y2 y3 r0 r1 r2 r3 q0 q1 q2 q3 xsz rsz HO HB HBX HBR hbz
                      go_wp2_with (go_at_call 27; refine (hdg _).mono ?_; rintro e w' ⟨rfl, rfl⟩)
                      go_loopw [9] (fun i wr => ∃ j k1 : Nat, j ≤ d ∧ k1 ≤ d + 1 ∧ Hid (k1 = j + 1) ∧ i = .int .i64 k1 ∧ Hid (XS w wr m (dI (W ++ (dr s (a + 1)).take j)) (W.length : Int) 0)) (fun i _ => d + 1 - (intOf i).toNat)
                      case atStart => exact ⟨0, 1, by omega, by omega, Lib.hid rfl, by go_num, Lib.hid (by rw [show (dr s (a + 1)).take 0 = [] from rfl, List.append_nil]; exact HX.out)⟩
                      case round =>
                        clear HX v
                        obtain ⟨k, k1, hk, hk1d, HK1, rfl, HX⟩ := hrel
                        obtain ⟨v, hx, hr, ho, hb⟩ := HX.out
                        obtain ⟨xsz, ⟨x0, x1, x2, x3⟩, y0, y1, y2, y3⟩ := hx.four
                        obtain ⟨rsz, ⟨r0, r1, r2, r3⟩, q0, q1, q2, q3⟩ := hr.four
                        have HO := Lib.hid ho; have HB := Lib.hid hb; have HBX := Lib.hid hx; have HBR := Lib.hid hr
                        clear hx hr ho hb
                        have hbz := HB.out.size
                        have hdl : (dI (W ++ (dr s (a + 1)).take k)).length ≤ W.length + k := by unfold dI; rw [List.length_map, List.length_append, List.length_take]; omega
                        by_cases hlt : k < d
                        · have HSN := Lib.hid (show dI (W ++ (dr s (a + 1)).take (k + 1)) = dI (W ++ (dr s (a + 1)).take k) ++ [(s[a + (k + 1)].toNat : Int) - 48] by
                            have e := dI_snoc (s := s) (a := a + 1) (k := k) (by omega)
                            have e2 : a + 1 + k = a + (k + 1) := by omega
                            simp only [e2] at e
                            unfold dI at *; rw [List.map_append, e, List.map_append, List.append_assoc])
                          have hk1 := HK1.out
                          have hak : a + k1 < s.size := by omega
                          have hw1 : (a : Int) + (k1 : Int) < s.size := by omega
                          have hwn : ((a : Int) + (k1 : Int)).toNat = a + k1 := by omega
                          have hw0 : 0 ≤ (a : Int) + (k1 : Int) := by omega
                          have hle2 : k1 ≤ d := by omega
                          have h256 := s[a + k1].toNat_lt
                          have HSN := Lib.hid (show dI (W ++ (dr s (a + 1)).take (k + 1)) = dI (W ++ (dr s (a + 1)).take k) ++ [(s[a + k1].toNat : Int) - 48] by subst hk1; exact HSN.out)
                          clear hk1
                          go_wp2
                          have HXE := Lib.hid (wrap_dig s[a + k1])
                          have hw : IntKind.i64.wrap ((a : Int) + k1) = (a : Int) + k1 := IntWalk.i64_in _ (by omega)
                          have hQ := HQ.out; subst hQ; clear HQ
                          go_region_law ((refine step_append_any _ (by rfl) _ _ _ (by rfl) (w.heap.size + 2) 3 i0 (.int .i64 0) 1 8 Tryd.underlying45 hi hz0 hz1 hz2 (by rfl) (by decide) v _ _ (by rfl) (World.ownsRow.drew (HO.out.alloc _)) (wr.heap.size + 1) (some ⟨wr.heap.size, 0, none⟩) 1 1 [.int .i64 (IntKind.i64.wrap (IntKind.i64.wrap (s[a + k1].toNat : Int) - 48))] (by rfl) ⟨rfl, fun _ => ⟨_, rfl, by show wr.heap.size < _; omega, fun j u hu => cell_one_new wr (.int .i64 (IntKind.i64.wrap (IntKind.i64.wrap (s[a + k1].toNat : Int) - 48))) 3 j u hu⟩⟩ (by simp [Value.oneCell']) (by unfold maxLen; omega) (by omega) (by simp; omega) ?_; intro v' w2 hown2 hg2 hat2; obtain ⟨A2, c2, rfl, _⟩ := Rd.of_own hown2; have HA := Lib.hid (XS.app1 HBX.out HBR.out HO.out HB.out hg2 hown2); clear hown2 hg2 hat2 x0 x1 x2 x3 y0 y1 y2 y3 r0 r1 r2 r3 q0 q1 q2 q3 xsz rsz; obtain ⟨xsz, ⟨x0, x1, x2, x3⟩, y0, y1, y2, y3⟩ := HA.out.1.four))
                          all_goals
                            clear hw
                            go_wp2
                            go_roundw
                            case rel => exact ⟨k + 1, k1 + 1, by omega, by omega, Lib.hid (by rw [HK1.out]), by go_num, Lib.hid (by have h := HA.out.2.2; simp only [List.length_append, List.length_map, List.length_cons, List.length_nil, Nat.zero_add] at h; rw [HSN.out, ← HXE.out]; exact h)⟩
                            case measure => have := HK1.out; simp [intOf]; omega
                        · have hkd : k = d := by omega
                          have HXD := Lib.hid (show XS w wr m (dI (W ++ (dr s (a + 1)).take d)) (W.length : Int) 0 by have := HX.out; rw [hkd] at this; exact this)
                          have hgt : d < k1 := by have := HK1.out; omega
                          clear hkd HX
                          go_wp2
                          go_meet
                          case rel => exact ⟨a + (d + 1), (dr s (a + 1)).take d, by go_num, by omega, by rw [hfl]; omega, HS2, HXD⟩
                case rest =>
                  clear HS HX x0 x1 x2 x3 y0 y1 y2 y3 r0 r1 r2 r3 q0 q1 q2 q3 xsz rsz HO HB HBX HBR hbz ha
                  obtain ⟨a, G, rfl, ha, hGl, HS, HX⟩ := hcut
                  have hdsl : (dI (W ++ G)).length ≤ 100000 := by unfold dI; rw [List.length_map, List.length_append]; omega
                  obtain ⟨ds, hds⟩ : ∃ ds, dI (W ++ G) = ds := ⟨_, rfl⟩
                  obtain ⟨pt, hpt⟩ : ∃ pt : Int, (W.length : Int) = pt := ⟨_, rfl⟩
                  rw [hds] at hdsl
                  rw [hds, hpt] at HX
                  have HDP := Lib.hid (And.intro hds hpt); clear hds hpt
                  obtain ⟨v, hx, hr, ho, hb⟩ := HX.out
                  obtain ⟨xsz, ⟨x0, x1, x2, x3⟩, y0, y1, y2, y3⟩ := hx.four
                  obtain ⟨rsz, ⟨r0, r1, r2, r3⟩, q0, q1, q2, q3⟩ := hr.four
                  have HO := Lib.hid ho; have HB := Lib.hid hb; have HBX := Lib.hid hx; have HBR := Lib.hid hr
                  clear hx hr ho hb
                  have hbz := HB.out.size
                  obtain ⟨Av, cv, hv, _⟩ := Rd.of_own HO.out
                  rw [List.length_map] at hv
                  obtain ⟨dl, hdl⟩ : ∃ dl, ds.length = dl := ⟨_, rfl⟩
                  rw [hdl] at hv HO
                  subst hv
                  have HDL := Lib.hid hdl; clear hdl
                  go_upto_if 101 with fail
                  by_cases hae : a = s.size
                  · have HN := Lib.hid (HS.out.trans (by rw [spl4, if_pos (by unfold dr; exact drop_nil s a (by omega))] : _ = some ⟨m, W, G, []⟩))
                    have hq : ((a : Int) == (s.size : Int)) = true := by simp; omega
                    clear hae HS
                    go_wp2
                    rw [← HQ.out]
                    obtain ⟨W9, hW9, zsz, ⟨z0, z1, z2, z3⟩, hO9, hB9⟩ := XS.done1 (m := m) (pt := pt) (ex := 0) HBR.out HO.out HB.out
                    rw [← hW9]
                    have HO9 := Lib.hid hO9; have HB9 := Lib.hid hB9; clear hW9 hO9 hB9
                    refine bodyPost_ret (v := .tuple #[.agg #[.bool m, .slice Av dl cv, .int .i64 pt, .int .i64 0], .bool true]) (by simp [results, Tryd.results20, go_sem, z0, z1, z2, z3]) rfl ?_
                    exact RdP.yes1 HDP.out HDL.out HN.out rfl HO9.out HB9.out
                  · have hlt : a < s.size := by omega
                    have hq : ((a : Int) == (s.size : Int)) = false := beq_eq_false_iff_ne.2 (by omega)
                    have HS2 := Lib.hid (HS.out.trans (by rw [spl4, if_neg (dr_ne hlt), dr_dr] : _ = if hd (dr s a) 101 || hd (dr s a) 69 then spl5 m W G (dr s (a + 1)) else none))
                    clear hae HS
                    go_upto_region 26 with fail
                    go_cut [112] (fun v wx => v = .bool (!(hd (dr s a) 101 || hd (dr s a) 69)) ∧ wx = wc)
                    case first =>
                      as_aux_lemma =>
                      have g1 := hd_n' (s := s) (p := a) (c := 101) (n := 101) hlt rfl
                      have g2 := hd_n' (s := s) (p := a) (c := 69) (n := 69) hlt rfl
                      have HG := Lib.hid (show (!(hd (dr s a) 101 || hd (dr s a) 69)) = (((s[a].toNat : Int) != 101) && ((s[a].toNat : Int) != 69)) by rw [g1, g2]; simp)
                      clear g1 g2
                      cases hx : ((s[a].toNat : Int) != 101)
                      · have HG := Lib.hid (HG.out.trans (by rw [hx]; rfl : _ = false))
                        go_wp2
                        go_meet
                        case rel => exact ⟨congrArg Value.bool HG.out.symm, rfl⟩
                      · have HG := Lib.hid (HG.out.trans (by rw [hx]; rfl : _ = ((s[a].toNat : Int) != 69)))
                        go_wp2
                        go_meet
                        case rel => exact ⟨congrArg Value.bool HG.out.symm, rfl⟩
                    case rest =>
                      obtain ⟨rfl, rfl⟩ := hcut
                      cases he : (hd (dr s a) 101 || hd (dr s a) 69) with
                      | false =>
                        have HN := Lib.hid (HS2.out.trans (by rw [he]; rfl : _ = none))
                        clear he HS2
                        go_wp2
                        rw [← HQ.out]
                        refine bodyPost_ret (v := .tuple #[.agg #[.bool false, .slice none 0 0, .int .i64 0, .int .i64 0], .bool false]) (by simp [results, Tryd.results20, go_sem, r0, r1, r2, r3]) rfl ?_
                        exact RdP.no HN.out (by have HW := HB; (repeat' (first | (with_reducible exact HW.out) | (with_reducible exact HB5.out) | (with_reducible refine Bel.setCell ?_ (by first | exact Nat.le_refl _ | (simp; omega) | omega | (simp <;> omega)) _) | (with_reducible refine Bel.alloc ?_ (by first | exact Nat.le_refl _ | (simp; omega) | omega | (simp <;> omega)) _) | (with_reducible refine Bel.drew ?_) | (with_reducible refine Bel.drewN ?_ _))))
                      | true =>
                        have HS3 := Lib.hid (HS2.out.trans (if_pos he))
                        clear he HS2 hq
                        go_upto_region 29 with fail
                        go_cut [5, 10] (fun v v' wx => ∃ a1 : Nat, v = .int .i64 a1 ∧ a1 ≤ s.size ∧ v' = .bool (hd (dr s a1) 45) ∧ Hid (S = spl5 m W G (dr s a1)) ∧ wx = wc)
                        case first =>
                          as_aux_lemma =>
                          go_wp2
                          all_goals
                            go_meet
                            case rel => exact ⟨a + 1, by go_num, by omega, congrArg Value.bool (by first | exact hd_i' (show a + 1 < s.size by omega) rfl | exact (hd_o (show s.size ≤ a + 1 by omega)).symm), HS3, rfl⟩
                        case rest =>
                          clear HS3 hlt ha
                          obtain ⟨a, rfl, ha, rfl, HS, rfl⟩ := hcut
                          have HS2 := Lib.hid (HS.out.trans (spl5_eq m W G (dr s a)))
                          have HE := Lib.hid (expR_eq (dr s a))
                          obtain ⟨e1, he1⟩ : ∃ e1, e1 = dr s a := ⟨_, rfl⟩
                          have HE1 := Lib.hid he1; clear he1 HS
                          obtain ⟨mn, hmn⟩ : ∃ mn, hd (dr s a) 45 = mn := ⟨_, rfl⟩
                          rw [hmn] at HS2 HE
                          simp only [hmn]
                          have HMN := Lib.hid hmn; clear hmn
                          go_upto_region 30 with fail
                          go_cut [138] (fun v wx => v = .bool (mn || hd (dr s a) 43) ∧ wx = wc)
                          case first =>
                            as_aux_lemma =>
                            cases mn
                            · go_wp2
                              all_goals
                                go_meet
                                case rel => exact ⟨congrArg Value.bool (by first | exact hd_i' (show a < s.size by omega) rfl | exact (hd_o (show s.size ≤ a by omega)).symm), rfl⟩
                            · go_wp2
                              go_meet
                              case rel => exact ⟨rfl, rfl⟩
                          case rest =>
                            obtain ⟨rfl, rfl⟩ := hcut
                            go_upto_if 138 with fail
                            go_cut [5] (fun v wx => ∃ a2 : Nat, v = .int .i64 a2 ∧ a2 ≤ s.size ∧ Hid (S = if dr s a2 ≠ [] ∧ digN (dr s a2) = (dr s a2).length then some ⟨m, W, G, e1⟩ else none) ∧ Hid (expR e1 = if mn then -(foldR 0 (dr s a2)) else foldR 0 (dr s a2)) ∧ wx = wc)
                            case first =>
                              as_aux_lemma =>
                              have HL := Lib.hid (show (mn || hd (dr s a) 43) = true → a < s.size by intro h; rw [← HMN.out] at h; exact hd_lt2 h)
                              obtain ⟨b, hb⟩ : ∃ b, (mn || hd (dr s a) 43) = b := ⟨_, rfl⟩
                              rw [hb] at HS2 HE HL
                              simp only [hb]
                              clear hb
                              cases b
                              · have HS3 := Lib.hid (HS2.out.trans (by rw [HE1.out]; rfl : _ = if dr s a ≠ [] ∧ digN (dr s a) = (dr s a).length then some (⟨m, W, G, e1⟩ : NP) else none))
                                have HE3 := Lib.hid (show expR e1 = if mn then -(foldR 0 (dr s a)) else foldR 0 (dr s a) by rw [HE1.out]; exact HE.out)
                                go_wp2
                                go_meet
                                case rel => exact ⟨a, rfl, ha, HS3, HE3, rfl⟩
                              · have hlt := HL.out rfl
                                have HS3 := Lib.hid (HS2.out.trans (by rw [HE1.out, dr_dr]; rfl : _ = if dr s (a + 1) ≠ [] ∧ digN (dr s (a + 1)) = (dr s (a + 1)).length then some (⟨m, W, G, e1⟩ : NP) else none))
                                have HE3 := Lib.hid (show expR e1 = if mn then -(foldR 0 (dr s (a + 1))) else foldR 0 (dr s (a + 1)) by rw [HE1.out]; refine HE.out.trans ?_; rw [dr_dr]; rfl)
                                clear HL
                                go_wp2
                                go_meet
                                case rel => exact ⟨a + 1, by go_num, by omega, HS3, HE3, rfl⟩
                            case rest =>
                              clear HS2 HE HE1 HMN ha
                              obtain ⟨a, rfl, ha, HS, HE, rfl⟩ := hcut
                              have hdg := fun w => HDG.out a w ha
                              have hdb := digN_bd s a ha
                              have HS := Lib.hid (show S = if digN (dr s a) ≠ 0 ∧ a + digN (dr s a) = s.size then some ⟨m, W, G, e1⟩ else none by
                                refine HS.out.trans ?_
                                have hl := dr_len s a
                                by_cases hc : dr s a ≠ [] ∧ digN (dr s a) = (dr s a).length
                                · rw [if_pos hc, if_pos]
                                  refine ⟨fun h0 => hc.1 (List.eq_nil_of_length_eq_zero (by rw [← hc.2]; exact h0)), by omega⟩
                                · rw [if_neg hc, if_neg]
                                  rintro ⟨h0, h1⟩
                                  exact hc ⟨fun h2 => h0 (by rw [h2]; rfl), by omega⟩)
                              by_cases hz : digN (dr s a) = 0
                              · have HN := Lib.hid (HS.out.trans (if_neg (by rintro ⟨h, _⟩; exact h hz)))
                                rw [hz] at hdg
                                clear hz HS hdb
                                go_wp2_with (go_at_call 27; refine (hdg _).mono ?_; rintro e w' ⟨rfl, rfl⟩)
                                rw [← HQ.out]
                                refine bodyPost_ret (v := .tuple #[.agg #[.bool false, .slice none 0 0, .int .i64 0, .int .i64 0], .bool false]) (by simp [results, Tryd.results20, go_sem, r0, r1, r2, r3]) rfl ?_
                                exact RdP.no HN.out (by have HW := HB; (repeat' (first | (with_reducible exact HW.out) | (with_reducible exact HB5.out) | (with_reducible refine Bel.setCell ?_ (by first | exact Nat.le_refl _ | (simp; omega) | omega | (simp <;> omega)) _) | (with_reducible refine Bel.alloc ?_ (by first | exact Nat.le_refl _ | (simp; omega) | omega | (simp <;> omega)) _) | (with_reducible refine Bel.drew ?_) | (with_reducible refine Bel.drewN ?_ _))))
                              · by_cases hne : a + digN (dr s a) = s.size
                                · have HN := Lib.hid (HS.out.trans (if_pos ⟨hz, hne⟩))
                                  have HDI := Lib.hid (show ∀ k, k < digN (dr s a) → ∀ (h : a + k < s.size), 48 ≤ (s[a + k].toNat : Int) ∧ (s[a + k].toNat : Int) ≤ 57 from fun k hk h => dig_in h hk)
                                  generalize digN (dr s a) = d at *
                                  have hz' : ((d : Int) == 0) = false := by simp [hz]
                                  have hne' : (((a : Int) + d) != (s.size : Int)) = false := by rw [bne_eq_false_iff_eq]; omega
                                  clear hz HS x0 x1 x2 x3 y0 y1 y2 y3 r0 r1 r2 r3 q0 q1 q2 q3 xsz rsz HO HB HBX HBR hbz
                                  go_wp2_with (go_at_call 27; refine (hdg _).mono ?_; rintro e w' ⟨rfl, rfl⟩)
                                  go_loopw [12] (fun i wr => ∃ (k : Nat) (x : Int), k ≤ d ∧ i = .int .i64 k ∧ 0 ≤ x ∧ x ≤ 1000000000000 ∧ Hid (foldR 0 (dr s a) = foldR x (dr s (a + k))) ∧ Hid (XS w wr m ds pt x)) (fun i _ => d - (intOf i).toNat)
                                  case atStart => exact ⟨0, 0, by omega, rfl, by omega, by omega, Lib.hid rfl, HX⟩
                                  case round =>
                                    clear HX
                                    obtain ⟨k, x, hk, rfl, hx0, hx1, HF, HX⟩ := hrel
                                    obtain ⟨v, hx, hr, ho, hb⟩ := HX.out
                                    obtain ⟨xsz, ⟨x0, x1, x2, x3⟩, y0, y1, y2, y3⟩ := hx.four
                                    obtain ⟨rsz, ⟨r0, r1, r2, r3⟩, q0, q1, q2, q3⟩ := hr.four
                                    have HO := Lib.hid ho; have HB := Lib.hid hb; have HBX := Lib.hid hx; have HBR := Lib.hid hr
                                    clear hx hr ho hb
                                    have hbz := HB.out.size
                                    by_cases hlt : k < d
                                    · have hak : a + k < s.size := by omega
                                      have hw1 : (a : Int) + k < s.size := by omega
                                      have hwn : ((a : Int) + k).toNat = a + k := by omega
                                      have hw0 : 0 ≤ (a : Int) + k := by omega
                                      have HF2 := Lib.hid (show foldR 0 (dr s a) = foldR (if 1000000000000 < x * 10 + (s[a + k].toNat : Int) - 48 then 1000000000000 else x * 10 + (s[a + k].toNat : Int) - 48) (dr s (a + (k + 1))) by
                                        rw [HF.out]
                                        conv => lhs; unfold dr
                                        rw [drop_cons s (a + k) hak, foldR]; rfl)
                                      have hxb : 0 ≤ (if 1000000000000 < x * 10 + (s[a + k].toNat : Int) - 48 then 1000000000000 else x * 10 + (s[a + k].toNat : Int) - 48) ∧ (if 1000000000000 < x * 10 + (s[a + k].toNat : Int) - 48 then 1000000000000 else x * 10 + (s[a + k].toNat : Int) - 48) ≤ 1000000000000 := by
                                        have h48 := HDI.out k hlt hak
                                        split <;> omega
                                      have HXB := Lib.hid hxb; clear hxb
                                      have h256 := s[a + k].toNat_lt
                                      go_wp2
                                      refine wp_region_still_tail 13 (by kernel_rfl) (by kernel_rfl) ?_
                                      change wpStill _ _ (World.drew _) (fun a' => wpList _ _ _ _ a' (World.drew _)) _ _
                                      simp only [List.take_succ_cons, List.take_zero, List.drop_succ_cons, List.drop_zero]
                                      have hw : IntKind.i64.wrap ((a : Int) + k) = (a : Int) + k := IntWalk.i64_in _ (by omega)
                                      repeat still_step
                                      refine wpStill_nil ?_
                                      go_wp2
                                      go_roundw
                                      case rel => exact ⟨k + 1, _, by omega, by go_num, HXB.out.1, HXB.out.2, HF2, Lib.hid (XS.drew (XS.set3 HX.out _))⟩
                                      case measure => simp [intOf]; omega
                                    · have hkd : k = d := by omega
                                      have HE2 := Lib.hid (show expR e1 = if mn then -x else x by
                                        rw [HE.out, HF.out, hkd, hne]
                                        have : dr s s.size = [] := by unfold dr; exact drop_nil s _ (Nat.le_refl _)
                                        rw [this]; rfl)
                                      obtain ⟨Av, cv, hv, _⟩ := Rd.of_own HO.out
                                      rw [List.length_map] at hv
                                      obtain ⟨dl, hdl⟩ : ∃ dl, ds.length = dl := ⟨_, rfl⟩
                                      rw [hdl] at hv HO
                                      subst hv
                                      have HDL := Lib.hid hdl; clear hdl
                                      clear hkd HE HF HX
                                      go_upto_if 173 with fail
                                      go_cut [173] (fun v wx => ∃ ex : Int, Hid (ex = expR e1) ∧ Hid (Blk wx w.heap.size 47 #[.bool false, .slice none 0 0, .int .i64 0, .int .i64 0] ∧ wx.ownsRow (w.heap.size + 2) 3 1 (.slice Av dl cv) dl (ds.map (Value.int .i64)) ∧ Bel w.heap.size w wx) ∧ Hid (Blk wx (w.heap.size + 1) 47 #[.bool m, .slice Av dl cv, .int .i64 pt, .int .i64 ex]))
                                      case first =>
                                        as_aux_lemma =>
                                        cases mn
                                        · have HE3 := Lib.hid (show x = expR e1 from HE2.out.symm)
                                          go_wp2
                                          go_meet
                                          case rel => exact ⟨x, HE3, Lib.hid ⟨HBR.out, HO.out, HB.out⟩, HBX⟩
                                        · have HE3 := Lib.hid (show -x = expR e1 from HE2.out.symm)
                                          go_wp2
                                          go_meet
                                          case rel => exact ⟨-x, HE3, Lib.hid ⟨HBR.out.far (by simp) _, ownsRow_set HO.out (by simp) _, HB.out.setCell (by simp) _⟩, Lib.hid (HBX.out.set_ 3 _)⟩
                                      case rest =>
                                        clear HE2 x0 x1 x2 x3 y0 y1 y2 y3 r0 r1 r2 r3 q0 q1 q2 q3 xsz rsz HO HB HBX HBR hbz
                                        obtain ⟨ex, HEX, H3, HBX⟩ := hcut
                                        obtain ⟨hr, ho, hb⟩ := H3.out
                                        obtain ⟨xsz, ⟨x0, x1, x2, x3⟩, y0, y1, y2, y3⟩ := HBX.out.four
                                        obtain ⟨rsz, ⟨r0, r1, r2, r3⟩, q0, q1, q2, q3⟩ := hr.four
                                        have HO := Lib.hid ho; have HB := Lib.hid hb; have HBR := Lib.hid hr
                                        clear hr ho hb H3
                                        go_wp2
                                        rw [← HQ.out]
                                        obtain ⟨W9, hW9, zsz, ⟨z0, z1, z2, z3⟩, hO9, hB9⟩ := XS.done1 (m := m) (pt := pt) (ex := ex) HBR.out HO.out HB.out
                                        rw [← hW9]
                                        have HO9 := Lib.hid hO9; have HB9 := Lib.hid hB9; clear hW9 hO9 hB9
                                        refine bodyPost_ret (v := .tuple #[.agg #[.bool m, .slice Av dl cv, .int .i64 pt, .int .i64 ex], .bool true]) (by simp [results, Tryd.results20, go_sem, z0, z1, z2, z3]) rfl ?_
                                        exact RdP.yes1 HDP.out HDL.out HN.out HEX.out HO9.out HB9.out
                                · have HN := Lib.hid (HS.out.trans (if_neg (by rintro ⟨_, h⟩; exact hne h)))
                                  generalize digN (dr s a) = d at *
                                  have hz' : ((d : Int) == 0) = false := by simp [hz]
                                  have hne' : (((a : Int) + d) != (s.size : Int)) = true := by rw [bne_iff_ne]; omega
                                  clear hz HS hne
                                  go_wp2_with (go_at_call 27; refine (hdg _).mono ?_; rintro e w' ⟨rfl, rfl⟩)
                                  rw [← HQ.out]
                                  refine bodyPost_ret (v := .tuple #[.agg #[.bool false, .slice none 0 0, .int .i64 0, .int .i64 0], .bool false]) (by simp [results, Tryd.results20, go_sem, r0, r1, r2, r3]) rfl ?_
                                  exact RdP.no HN.out (by have HW := HB; (repeat' (first | (with_reducible exact HW.out) | (with_reducible exact HB5.out) | (with_reducible refine Bel.setCell ?_ (by first | exact Nat.le_refl _ | (simp; omega) | omega | (simp <;> omega)) _) | (with_reducible refine Bel.alloc ?_ (by first | exact Nat.le_refl _ | (simp; omega) | omega | (simp <;> omega)) _) | (with_reducible refine Bel.drew ?_) | (with_reducible refine Bel.drewN ?_ _))))

end Go.Proofs.YtdfamphnilelnaaDoor
