/- ref20: Sound. -/
import Derived.Test.YthlcbjjeklkmfaaVl
import Derived.Test.YthlcbjjeklkmfaaVu
namespace Go.Proofs.Ythlcbjjeklkmfaa
open Go.RowKit

set_option maxRecDepth 100000 in
set_option maxHeartbeats 4000000 in
theorem rsound_any (A1 A2 A3 A4 : Option Addr) (c1 c2 c3 c4 : Nat) (cd : CodeD) (w : World) (h : CM w A1 A2 A3 A4 cd) (l1 : cd.ps.length ≤ 1000000000) (l2 : cd.gs.length ≤ 1000000000) (l3 : cd.ss.length ≤ 1000000000) (l4 : cd.is.length ≤ 1000000000) :
    Calls Try.prog 8 #[.agg #[.slice A1 cd.ps.length c1, .slice A2 cd.gs.length c2, .slice A3 cd.ss.length c3, .slice A4 cd.is.length c4]] w fun e w' => e = .returned (.bool (soundL cd)) ∧ Bel w.heap.size w w' := by
  have hth0 := fun p w h => there_any A1 A2 A3 A4 c1 c2 c3 c4 cd p w h l1 l2
  have hfi0 := fun p q w h => rfilter_any A1 A2 A3 A4 c1 c2 c3 c4 cd p q w h l1 l2 l3 l4
  have HS0 := Lib.hid (US.start (cv := #[.slice A1 cd.ps.length c1, .slice A2 cd.gs.length c2, .slice A3 cd.ss.length c3, .slice A4 cd.is.length c4]) h)
  have HQ0 := Lib.hid (show soundL cd = ((cd.ps.drop 0).all (pathOK cd) && (cd.gs.all (segOK cd) && (cd.ss.all kindOK && (pathsFrom cd 0 cd.ps && decide (0 < cd.ps.length))))) by
    unfold soundL; simp only [List.drop_zero]; cases decide (0 < cd.ps.length) <;> simp [Bool.and_assoc])
  clear h
  go_enter Try.func8, Try.ntmps8
  go_wp2
  go_loopw [3] (fun i wr => ∃ k : Nat, k ≤ cd.ps.length ∧ i = .int .i64 k ∧ Hid (soundL cd = ((cd.ps.drop k).all (pathOK cd) && (cd.gs.all (segOK cd) && (cd.ss.all kindOK && (pathsFrom cd 0 cd.ps && decide (0 < cd.ps.length)))))) ∧ Hid (∀ j x, j < k → cd.ps[j]? = some x → pathOK cd x = true) ∧ Hid (US w wr #[.slice A1 cd.ps.length c1, .slice A2 cd.gs.length c2, .slice A3 cd.ss.length c3, .slice A4 cd.is.length c4] A1 A2 A3 A4 cd)) (fun i _ => cd.ps.length - (intOf i).toNat)
  case atStart => exact ⟨0, by omega, rfl, HQ0, Lib.hid (fun j x h => by omega), HS0⟩
  case round =>
    clear HS0 HQ0
    obtain ⟨k, hk, rfl, HQ, HA, HS⟩ := hrel
    obtain ⟨hk1, hcm, hbe⟩ := HS.out; obtain ⟨xsz, ⟨x0, x1, x2, x3⟩, y0, y1, y2, y3⟩ := hk1.four; have HC := Lib.hid hcm; have HW := Lib.hid hbe; clear hk1 hcm hbe
    by_cases hlt : k < cd.ps.length
    · obtain ⟨x, hx⟩ : ∃ x, cd.ps[k]? = some x := ⟨_, List.getElem?_eq_getElem hlt⟩
      have HST := Lib.hid (HQ.out.trans (by rw [all_step cd.ps (pathOK cd) k x hx, Bool.and_assoc] : _ = (pathOK cd x && ((cd.ps.drop (k + 1)).all (pathOK cd) && (cd.gs.all (segOK cd) && (cd.ss.all kindOK && (pathsFrom cd 0 cd.ps && decide (0 < cd.ps.length))))))))
      have hth := fun w h => hth0 (k : Int) w h
      rw [there_at cd k x hx] at hth
      have HX := Lib.hid hx
      have hkl : (k : Int) < cd.ps.length := by omega
      clear hx
      obtain ⟨r, hr⟩ : ∃ r, pathOK cd x = r := ⟨_, rfl⟩
      rw [hr] at hth HST
      have HR := Lib.hid hr
      clear hr
      cases r with
      | false =>
        have HF := Lib.hid (show soundL cd = false by rw [HST.out]; rfl)
        go_wp2_with (go_at_call 16; refine (hth _ HC.out).mono ?_; rintro e w4 ⟨rfl, hb⟩; have HR2 := Lib.hid (HS.out.bel hb); clear hb)
        go_ret
        exact ⟨ret_bool HF.out.symm, HR2.out.2.2⟩
      | true =>
        have HN := Lib.hid (HST.out.trans (Bool.true_and _))
        have HA2 := Lib.hid (show ∀ j y, j < k + 1 → cd.ps[j]? = some y → pathOK cd y = true from fun j y hj hy => by
          by_cases e : j = k
          · subst e; rw [HX.out] at hy; injection hy with hy; subst hy; exact HR.out
          · exact HA.out j y (by omega) hy)
        go_wp2_with (go_at_call 16; refine (hth _ HC.out).mono ?_; rintro e w4 ⟨rfl, hb⟩; have HR2 := Lib.hid (HS.out.bel hb); clear hb)
        go_roundw
        case rel => exact ⟨k + 1, by omega, by go_num, HN, HA2, HR2⟩
        case measure => simp [intOf]; omega
    · obtain rfl : k = cd.ps.length := by omega
      have hkl : ¬ (cd.ps.length : Int) < cd.ps.length := by omega
      have HQ1 := Lib.hid (show soundL cd = ((cd.gs.drop 0).all (segOK cd) && (cd.ss.all kindOK && (pathsFrom cd 0 cd.ps && decide (0 < cd.ps.length)))) by rw [HQ.out, all_end _ _ _ (Nat.le_refl _)]; simp)
      have HA1 := Lib.hid (show ∀ j x, cd.ps[j]? = some x → pathOK cd x = true from fun j x hx => HA.out j x (List.getElem?_eq_some_iff.1 hx).1 hx)
      have HS1 := Lib.hid HS.out
      clear HQ HA hlt hk
      go_wp2
      clear xsz x0 x1 x2 x3 y0 y1 y2 y3 HC HW HS
      go_loopw [4] (fun i wr => ∃ k : Nat, k ≤ cd.gs.length ∧ i = .int .i64 k ∧ Hid (soundL cd = ((cd.gs.drop k).all (segOK cd) && (cd.ss.all kindOK && (pathsFrom cd 0 cd.ps && decide (0 < cd.ps.length))))) ∧ Hid (∀ j x, j < k → cd.gs[j]? = some x → segOK cd x = true) ∧ Hid (US w wr #[.slice A1 cd.ps.length c1, .slice A2 cd.gs.length c2, .slice A3 cd.ss.length c3, .slice A4 cd.is.length c4] A1 A2 A3 A4 cd)) (fun i _ => cd.gs.length - (intOf i).toNat)
      case atStart => exact ⟨0, by omega, rfl, HQ1, Lib.hid (fun j x h => by omega), HS1⟩
      case round =>
        clear HS1 HQ1
        obtain ⟨k, hk, rfl, HQ, HA, HS⟩ := hrel
        obtain ⟨hk1, hcm, hbe⟩ := HS.out; obtain ⟨xsz, ⟨x0, x1, x2, x3⟩, y0, y1, y2, y3⟩ := hk1.four; have HC := Lib.hid hcm; have HW := Lib.hid hbe; clear hk1 hcm hbe
        by_cases hlt : k < cd.gs.length
        · obtain ⟨y, hy⟩ : ∃ y, cd.gs[k]? = some y := ⟨_, List.getElem?_eq_getElem hlt⟩
          have HST := Lib.hid (HQ.out.trans (by rw [all_step cd.gs (segOK cd) k y hy, Bool.and_assoc] : _ = (segOK cd y && ((cd.gs.drop (k + 1)).all (segOK cd) && (cd.ss.all kindOK && (pathsFrom cd 0 cd.ps && decide (0 < cd.ps.length)))))))
          have HX := Lib.hid hy
          obtain ⟨b2, o2, e2, hb2, hc2⟩ := HC.out.g.resolve_left (by intro e; rw [e] at hlt; simp at hlt)
          subst e2
          obtain ⟨g0, g1, g2⟩ := hc2 k y hy
          have hseg := fun w => seg_any A1 (some ⟨b2, o2, none⟩) A3 A4 cd.ps.length cd.gs.length cd.ss.length cd.is.length c1 c2 c3 c4 y w
          rw [show (inR y.fr y.tt cd.ss.length && decide (y.fr < y.tt)) = segOK cd y from rfl] at hseg
          obtain ⟨r, hr⟩ : ∃ r, segOK cd y = r := ⟨_, rfl⟩
          rw [hr] at hseg HST
          have HR := Lib.hid hr
          clear hr hc2 hy
          obtain ⟨yd, yf, yt⟩ := y
          simp only at g0 g1 g2 hseg
          have hkl : (k : Int) < cd.gs.length := by omega
          go_upto_region 9 with fail
          go_cut [34] (fun v wx => v = .bool (!r) ∧ Hid (US w wx #[.slice A1 cd.ps.length c1, .slice (some ⟨b2, o2, none⟩) cd.gs.length c2, .slice A3 cd.ss.length c3, .slice A4 cd.is.length c4] A1 (some ⟨b2, o2, none⟩) A3 A4 cd))
          case first => as_aux_lemma =>
            go_region_with (go_at_call 17; refine (hseg _).mono ?_; rintro e w2 ⟨rfl, hb⟩; have HS := Lib.hid (show US w w2 #[.slice A1 cd.ps.length c1, .slice (some ⟨b2, o2, none⟩) cd.gs.length c2, .slice A3 cd.ss.length c3, .slice A4 cd.is.length c4] A1 (some ⟨b2, o2, none⟩) A3 A4 cd by first | exact HS.out.bel hb | exact HS.out.bel ((Bel.refl _ _).drew.trans hb)); clear hb)
            all_goals
              go_wp2
              go_meet
              case rel => exact ⟨rfl, HS⟩
          case rest =>
            obtain ⟨rfl, HS9⟩ := hcut
            clear xsz x0 x1 x2 x3 y0 y1 y2 y3 HC HW HS
            obtain ⟨hk1, hcm, hbe⟩ := HS9.out; obtain ⟨xsz, ⟨x0, x1, x2, x3⟩, y0, y1, y2, y3⟩ := hk1.four; have HC := Lib.hid hcm; have HW := Lib.hid hbe; clear hk1 hcm hbe
            cases r with
            | false =>
              have HF := Lib.hid (show soundL cd = false by rw [HST.out]; rfl)
              go_wp2
              go_ret
              exact ⟨ret_bool HF.out.symm, HW.out⟩
            | true =>
              have HN := Lib.hid (HST.out.trans (Bool.true_and _))
              have HA2 := Lib.hid (show ∀ j z, j < k + 1 → cd.gs[j]? = some z → segOK cd z = true from fun j z hj hz => by
                by_cases e : j = k
                · subst e; rw [HX.out] at hz; injection hz with hz; subst hz; exact HR.out
                · exact HA.out j z (by omega) hz)
              go_wp2
              go_roundw
              case rel => exact ⟨k + 1, by omega, by go_num, HN, HA2, HS9⟩
              case measure => simp [intOf]; omega
        · obtain rfl : k = cd.gs.length := by omega
          have hkl : ¬ (cd.gs.length : Int) < cd.gs.length := by omega
          have HQ1 := Lib.hid (show soundL cd = ((cd.ss.drop 0).all kindOK && (pathsFrom cd 0 cd.ps && decide (0 < cd.ps.length))) by rw [HQ.out, all_end _ _ _ (Nat.le_refl _)]; simp)
          have HG1 := Lib.hid (show ∀ j x, cd.gs[j]? = some x → segOK cd x = true from fun j x hx => HA.out j x (List.getElem?_eq_some_iff.1 hx).1 hx)
          have HS1 := Lib.hid HS.out
          clear HQ HA hlt hk
          go_wp2
          clear xsz x0 x1 x2 x3 y0 y1 y2 y3 HC HW HS
          go_loopw [5] (fun i wr => ∃ k : Nat, k ≤ cd.ss.length ∧ i = .int .i64 k ∧ Hid (soundL cd = ((cd.ss.drop k).all kindOK && (pathsFrom cd 0 cd.ps && decide (0 < cd.ps.length)))) ∧ Hid (US w wr #[.slice A1 cd.ps.length c1, .slice A2 cd.gs.length c2, .slice A3 cd.ss.length c3, .slice A4 cd.is.length c4] A1 A2 A3 A4 cd)) (fun i _ => cd.ss.length - (intOf i).toNat)
          case atStart => exact ⟨0, by omega, rfl, HQ1, HS1⟩
          case round =>
            clear HS1 HQ1
            obtain ⟨k, hk, rfl, HQ, HS⟩ := hrel
            obtain ⟨hk1, hcm, hbe⟩ := HS.out; obtain ⟨xsz, ⟨x0, x1, x2, x3⟩, y0, y1, y2, y3⟩ := hk1.four; have HC := Lib.hid hcm; have HW := Lib.hid hbe; clear hk1 hcm hbe
            by_cases hlt : k < cd.ss.length
            · obtain ⟨x, hx⟩ : ∃ x, cd.ss[k]? = some x := ⟨_, List.getElem?_eq_getElem hlt⟩
              have HST := Lib.hid (HQ.out.trans (by rw [all_step cd.ss kindOK k x hx, Bool.and_assoc] : _ = (kindOK x && ((cd.ss.drop (k + 1)).all kindOK && (pathsFrom cd 0 cd.ps && decide (0 < cd.ps.length))))))
              obtain ⟨b3, o3, e3, hb3, hc3⟩ := HC.out.s.resolve_left (by intro e; rw [e] at hlt; simp at hlt)
              subst e3
              obtain ⟨g0, _⟩ := hc3 k x hx
              have hkl : (k : Int) < cd.ss.length := by omega
              clear hc3 hx
              have HKO := Lib.hid (show kindOK x = (decide (0 ≤ x.kind) && decide (x.kind ≤ 4)) from rfl)
              obtain ⟨kd, hkd⟩ : ∃ kd, x.kind = kd := ⟨_, rfl⟩
              rw [hkd] at g0 HKO
              clear hkd
              by_cases hk0 : kd < 0
              · have HF := Lib.hid (show soundL cd = false by rw [HST.out, HKO.out, decide_eq_false (by omega : ¬ 0 ≤ kd)]; rfl)
                go_wp2
                go_ret
                exact ⟨ret_bool HF.out.symm, HW.out⟩
              · have d0 : decide (kd < 0) = false := decide_eq_false hk0
                by_cases hk4 : 4 < kd
                · have HF := Lib.hid (show soundL cd = false by rw [HST.out, HKO.out, decide_eq_false (by omega : ¬ kd ≤ 4)]; simp)
                  go_wp2
                  go_ret
                  exact ⟨ret_bool HF.out.symm, HW.out⟩
                · have d4 : decide (4 < kd) = false := decide_eq_false hk4
                  have HN := Lib.hid (show soundL cd = ((cd.ss.drop (k + 1)).all kindOK && (pathsFrom cd 0 cd.ps && decide (0 < cd.ps.length))) by rw [HST.out, HKO.out, decide_eq_true (by omega : 0 ≤ kd), decide_eq_true (by omega : kd ≤ 4)]; rfl)
                  have HS2 := Lib.hid HS.out
                  go_wp2
                  go_roundw
                  case rel => exact ⟨k + 1, by omega, by go_num, HN, HS2⟩
                  case measure => simp [intOf]; omega
            · obtain rfl : k = cd.ss.length := by omega
              have hkl : ¬ (cd.ss.length : Int) < cd.ss.length := by omega
              have HQ1 := Lib.hid (show soundL cd = (pathsFrom cd 0 (cd.ps.drop 0) && decide (0 < cd.ps.length)) by rw [HQ.out, all_end _ _ _ (Nat.le_refl _)]; simp)
              have HS1 := Lib.hid HS.out
              clear HQ hlt hk
              go_wp2
              clear xsz x0 x1 x2 x3 y0 y1 y2 y3 HC HW HS
              go_loopw [6] (fun i wr => ∃ k : Nat, k ≤ cd.ps.length ∧ i = .int .i64 k ∧ Hid (soundL cd = (pathsFrom cd k (cd.ps.drop k) && decide (0 < cd.ps.length))) ∧ Hid (US w wr #[.slice A1 cd.ps.length c1, .slice A2 cd.gs.length c2, .slice A3 cd.ss.length c3, .slice A4 cd.is.length c4] A1 A2 A3 A4 cd)) (fun i _ => cd.ps.length - (intOf i).toNat)
              case atStart => exact ⟨0, by omega, rfl, HQ1, HS1⟩
              case round =>
                clear HS1 HQ1
                obtain ⟨k, hk, rfl, HQ, HS⟩ := hrel
                obtain ⟨hk1, hcm, hbe⟩ := HS.out; obtain ⟨xsz, ⟨x0, x1, x2, x3⟩, y0, y1, y2, y3⟩ := hk1.four; have HC := Lib.hid hcm; have HW := Lib.hid hbe; clear hk1 hcm hbe
                by_cases hlt : k < cd.ps.length
                · obtain ⟨x, hx⟩ : ∃ x, cd.ps[k]? = some x := ⟨_, List.getElem?_eq_getElem hlt⟩
                  have HST := Lib.hid (HQ.out.trans (by rw [paths_step cd k x hx, Bool.and_assoc] : _ = ((sub cd.gs x.fr x.tt).all (FS cd k) && (pathsFrom cd (k + 1) (cd.ps.drop (k + 1)) && decide (0 < cd.ps.length)))))
                  have HXP := Lib.hid hx
                  obtain ⟨b1, o1, e1, hb1, hc1⟩ := HC.out.p.resolve_left (by intro e; rw [e] at hlt; simp at hlt)
                  subst e1
                  obtain ⟨g0, g1, g2⟩ := hc1 k x hx
                  have hpo := HA1.out k x hx
                  have hkl : (k : Int) < cd.ps.length := by omega
                  clear hc1 hx
                  obtain ⟨pa, fr, tt⟩ := x
                  have hin2 : 0 ≤ fr ∧ fr ≤ tt ∧ tt ≤ (cd.gs.length : Int) := by unfold pathOK at hpo; rw [Bool.and_eq_true] at hpo; have := hpo.1; unfold inR at this; simpa [and_assoc] using this
                  obtain ⟨a, rfl⟩ : ∃ a : Nat, fr = a := ⟨fr.toNat, by omega⟩
                  obtain ⟨b, rfl⟩ : ∃ b : Nat, tt = b := ⟨tt.toNat, by omega⟩
                  have hab : a ≤ b := by omega
                  have hbl : b ≤ cd.gs.length := by omega
                  simp only at g0 g1 g2
                  have HQ5 := Lib.hid (show soundL cd = (((cd.gs.drop (a + 0)).take (b - (a + 0))).all (FS cd k) && (pathsFrom cd (k + 1) (cd.ps.drop (k + 1)) && decide (0 < cd.ps.length))) from HST.out)
                  have HS5 := Lib.hid HS.out
                  clear hpo hin2 HST HQ
                  go_wp2
                  clear xsz x0 x1 x2 x3 y0 y1 y2 y3 HC HW HS g0 g1 g2
                  go_loopw [7] (fun i wr => ∃ j J : Nat, j ≤ b - a ∧ Hid (a + j = J) ∧ i = .int .i64 (J : Int) ∧ Hid (soundL cd = (((cd.gs.drop (a + j)).take (b - (a + j))).all (FS cd k) && (pathsFrom cd (k + 1) (cd.ps.drop (k + 1)) && decide (0 < cd.ps.length)))) ∧ Hid (US w wr #[.slice (some ⟨b1, o1, none⟩) cd.ps.length c1, .slice A2 cd.gs.length c2, .slice A3 cd.ss.length c3, .slice A4 cd.is.length c4] (some ⟨b1, o1, none⟩) A2 A3 A4 cd)) (fun i _ => b - (intOf i).toNat)
                  case atStart => exact ⟨0, a, by omega, Lib.hid rfl, rfl, HQ5, HS5⟩
                  case round =>
                    clear HS5 HQ5
                    obtain ⟨j, J, hj, HJ, rfl, HQ, HS⟩ := hrel
                    obtain ⟨hk1, hcm, hbe⟩ := HS.out; obtain ⟨xsz, ⟨x0, x1, x2, x3⟩, y0, y1, y2, y3⟩ := hk1.four; have HC := Lib.hid hcm; have HW := Lib.hid hbe; clear hk1 hcm hbe
                    obtain ⟨bp, op, ep, hbp, hcp⟩ := HC.out.p.resolve_left (by intro e; rw [e] at hlt; simp at hlt)
                    injection ep with ep; injection ep with epb epo; subst epb; subst epo
                    obtain ⟨g0, g1, g2⟩ := hcp k _ HXP.out
                    simp only at g0 g1 g2
                    clear hcp
                    have hJb : J ≤ b := by have := HJ.out; omega
                    by_cases hltj : J < b
                    · have hltj0 : j < b - a := by have := HJ.out; omega
                      obtain ⟨y, hy⟩ : ∃ y, cd.gs[J]? = some y := ⟨_, List.getElem?_eq_getElem (by omega)⟩
                      have HST := Lib.hid (HQ.out.trans (by rw [sub_step cd.gs (FS cd k) a b j y (by omega) (by rw [HJ.out]; exact hy), Bool.and_assoc] : _ = (FS cd k y && (((cd.gs.drop (a + (j + 1))).take (b - (a + (j + 1)))).all (FS cd k) && (pathsFrom cd (k + 1) (cd.ps.drop (k + 1)) && decide (0 < cd.ps.length))))))
                      have HXG := Lib.hid hy
                      have hso := HG1.out J y hy
                      obtain ⟨b2, o2, e2, hb2, hc2⟩ := HC.out.g.resolve_left (by intro e; rw [e] at hbl; simp at hbl; omega)
                      subst e2
                      obtain ⟨k0, k1, k2⟩ := hc2 J y hy
                      clear hc2 hy
                      obtain ⟨yd, yf, yt⟩ := y
                      unfold segOK inR at hso
                      simp only [Bool.and_eq_true, decide_eq_true_eq] at k0 k1 k2 hso
                      obtain ⟨⟨⟨hs1, hs2⟩, hs3⟩, hs4⟩ := hso
                      obtain ⟨f, rfl⟩ : ∃ f : Nat, yf = f := ⟨yf.toNat, by omega⟩
                      obtain ⟨t, rfl⟩ : ∃ t : Nat, yt = t := ⟨yt.toNat, by omega⟩
                      have hft : f < t := by omega
                      have htl : t ≤ cd.ss.length := by omega
                      have HQ7 := Lib.hid (show soundL cd = (((cd.ss.drop (f + 0)).take (t - (f + 0))).all (FY cd k) && (((cd.gs.drop (a + (j + 1))).take (b - (a + (j + 1)))).all (FS cd k) && (pathsFrom cd (k + 1) (cd.ps.drop (k + 1)) && decide (0 < cd.ps.length)))) from HST.out)
                      have HS7 := Lib.hid HS.out
                      have hJl : (J : Int) < cd.gs.length := by omega
                      have hJb2 : (J : Int) < (b : Int) := by omega
                      clear HST hs1 hs2 hs3 hs4 HQ
                      go_wp2
                      clear xsz x0 x1 x2 x3 y0 y1 y2 y3 HC HW HS g0 g1 g2 k0 k1 k2
                      go_loopw [8] (fun i wr => ∃ m M : Nat, m ≤ t - f ∧ Hid (f + m = M) ∧ i = .int .i64 (M : Int) ∧ Hid (soundL cd = (((cd.ss.drop (f + m)).take (t - (f + m))).all (FY cd k) && (((cd.gs.drop (a + (j + 1))).take (b - (a + (j + 1)))).all (FS cd k) && (pathsFrom cd (k + 1) (cd.ps.drop (k + 1)) && decide (0 < cd.ps.length))))) ∧ Hid (US w wr #[.slice (some ⟨b1, o1, none⟩) cd.ps.length c1, .slice (some ⟨b2, o2, none⟩) cd.gs.length c2, .slice A3 cd.ss.length c3, .slice A4 cd.is.length c4] (some ⟨b1, o1, none⟩) (some ⟨b2, o2, none⟩) A3 A4 cd)) (fun i _ => t - (intOf i).toNat)
                      case atStart => exact ⟨0, f, by omega, Lib.hid rfl, rfl, HQ7, HS7⟩
                      case round =>
                        clear HS7 HQ7
                        obtain ⟨m, M, hm, HM, rfl, HQ, HS⟩ := hrel
                        obtain ⟨hk1, hcm, hbe⟩ := HS.out; obtain ⟨xsz, ⟨x0, x1, x2, x3⟩, y0, y1, y2, y3⟩ := hk1.four; have HC := Lib.hid hcm; have HW := Lib.hid hbe; clear hk1 hcm hbe
                        obtain ⟨bp, op, ep, hbp, hcp⟩ := HC.out.g.resolve_left (by intro e; rw [e] at hbl; simp at hbl; omega)
                        injection ep with ep; injection ep with epb epo; subst epb; subst epo
                        obtain ⟨k0, k1, k2⟩ := hcp J _ HXG.out
                        simp only at k0 k1 k2
                        clear hcp
                        have hMt : M ≤ t := by have := HM.out; omega
                        by_cases hltm : M < t
                        · have hltm0 : m < t - f := by have := HM.out; omega
                          obtain ⟨z, hz⟩ : ∃ z, cd.ss[M]? = some z := ⟨_, List.getElem?_eq_getElem (by omega)⟩
                          have HST := Lib.hid (HQ.out.trans (by rw [sub_step cd.ss (FY cd k) f t m z (by omega) (by rw [HM.out]; exact hz), Bool.and_assoc] : _ = (FY cd k z && (((cd.ss.drop (f + (m + 1))).take (t - (f + (m + 1)))).all (FY cd k) && (((cd.gs.drop (a + (j + 1))).take (b - (a + (j + 1)))).all (FS cd k) && (pathsFrom cd (k + 1) (cd.ps.drop (k + 1)) && decide (0 < cd.ps.length)))))))
                          obtain ⟨b3, o3, e3, hb3, hc3⟩ := HC.out.s.resolve_left (by intro e; rw [e] at htl; simp at htl; omega)
                          subst e3
                          obtain ⟨g0, _, _, _, _, _, _, g7⟩ := hc3 M z hz
                          have HFY := Lib.hid (show FY cd k z = (z.kind != 4 || filterOK cd k z.at_) from rfl)
                          clear hc3 hz
                          obtain ⟨kd, hkd⟩ : ∃ kd, z.kind = kd := ⟨_, rfl⟩
                          obtain ⟨sat, hsat⟩ : ∃ sat, z.at_ = sat := ⟨_, rfl⟩
                          rw [hkd] at g0 HFY
                          rw [hsat] at g7 HFY
                          obtain ⟨r, hr⟩ : ∃ r, FY cd k z = r := ⟨_, rfl⟩
                          rw [hr] at HST HFY
                          have hMl : (M : Int) < cd.ss.length := by omega
                          have hMt2 : (M : Int) < (t : Int) := by omega
                          have hfi := fun w h => hfi0 (k : Int) sat w h
                          have HCM := Lib.hid HC.out
                          clear hkd hsat hr
                          go_upto_region 25 with fail
                          go_cut [115] (fun v wx => v = .bool (!r) ∧ Hid (US w wx #[.slice (some ⟨b1, o1, none⟩) cd.ps.length c1, .slice (some ⟨b2, o2, none⟩) cd.gs.length c2, .slice (some ⟨b3, o3, none⟩) cd.ss.length c3, .slice A4 cd.is.length c4] (some ⟨b1, o1, none⟩) (some ⟨b2, o2, none⟩) (some ⟨b3, o3, none⟩) A4 cd))
                          case first => as_aux_lemma =>
                            by_cases hk4 : kd = 4
                            · subst hk4
                              obtain ⟨q, hq⟩ : ∃ q, filterOK cd (k : Int) sat = q := ⟨_, rfl⟩
                              rw [hq] at hfi HFY
                              have HRQ := Lib.hid (show r = q by rw [HFY.out]; simp)
                              clear hq
                              go_region_with (go_at_call 18; refine (hfi _ (by first | exact HCM.out | exact HCM.out.bel (Bel.refl _ _).drew)).mono ?_; rintro e w2 ⟨rfl, hb⟩; have HS9 := Lib.hid (show US w w2 #[.slice (some ⟨b1, o1, none⟩) cd.ps.length c1, .slice (some ⟨b2, o2, none⟩) cd.gs.length c2, .slice (some ⟨b3, o3, none⟩) cd.ss.length c3, .slice A4 cd.is.length c4] (some ⟨b1, o1, none⟩) (some ⟨b2, o2, none⟩) (some ⟨b3, o3, none⟩) A4 cd by first | exact HS.out.bel hb | exact HS.out.bel ((Bel.refl _ _).drew.trans hb)); clear hb)
                              all_goals
                                go_wp2
                                go_meet
                                case rel => exact ⟨by rw [HRQ.out], HS9⟩
                            · have hk9 : (kd == 4) = false := beq_eq_false_iff_ne.2 hk4
                              have HRQ := Lib.hid (show r = true by rw [HFY.out]; unfold bne; rw [hk9]; rfl)
                              have HS9 := Lib.hid (show ∀ wq, (∃ n, wq = wr.drewN n) → US w wq #[.slice (some ⟨b1, o1, none⟩) cd.ps.length c1, .slice (some ⟨b2, o2, none⟩) cd.gs.length c2, .slice (some ⟨b3, o3, none⟩) cd.ss.length c3, .slice A4 cd.is.length c4] (some ⟨b1, o1, none⟩) (some ⟨b2, o2, none⟩) (some ⟨b3, o3, none⟩) A4 cd from fun wq ⟨n, e⟩ => by rw [e]; exact HS.out.bel ((Bel.refl _ _).drewN n))
                              go_quiet (fail)
                              go_wp2
                              go_meet
                              case rel => exact ⟨by rw [HRQ.out]; rfl, Lib.hid (HS9.out _ ⟨_, rfl⟩)⟩
                          case rest =>
                            obtain ⟨rfl, HS9⟩ := hcut
                            clear xsz x0 x1 x2 x3 y0 y1 y2 y3 HC HW HS g0 g7 k0 k1 k2 HCM
                            obtain ⟨hk1, hcm, hbe⟩ := HS9.out; obtain ⟨xsz, ⟨x0, x1, x2, x3⟩, y0, y1, y2, y3⟩ := hk1.four; have HC := Lib.hid hcm; have HW := Lib.hid hbe; clear hk1 hcm hbe
                            cases r with
                            | false =>
                              have HF := Lib.hid (show soundL cd = false by rw [HST.out]; rfl)
                              go_wp2
                              go_ret
                              exact ⟨ret_bool HF.out.symm, HW.out⟩
                            | true =>
                              have HN := Lib.hid (HST.out.trans (Bool.true_and _))
                              have HMJ := Lib.hid (show f + (m + 1) = M + 1 by have := HM.out; omega)
                              go_wp2
                              go_roundw
                              case rel => exact ⟨m + 1, M + 1, by omega, HMJ, by go_num, HN, HS9⟩
                              case measure => simp [intOf]; omega
                        · have HN := Lib.hid (show soundL cd = (((cd.gs.drop (a + (j + 1))).take (b - (a + (j + 1)))).all (FS cd k) && (pathsFrom cd (k + 1) (cd.ps.drop (k + 1)) && decide (0 < cd.ps.length))) by rw [HQ.out, sub_end cd.ss _ f t m (by have := HM.out; omega), Bool.true_and])
                          have hMt2 : ¬ (M : Int) < (t : Int) := by omega
                          have hJl : (J : Int) < cd.gs.length := by omega
                          have HS9 := Lib.hid HS.out
                          have HMJ := Lib.hid (show a + (j + 1) = J + 1 by have := HJ.out; omega)
                          clear HQ
                          go_wp2
                          go_roundw
                          case rel => exact ⟨j + 1, J + 1, by omega, HMJ, by go_num, HN, HS9⟩
                          case measure => simp [intOf]; omega
                    · have HN := Lib.hid (show soundL cd = (pathsFrom cd (k + 1) (cd.ps.drop (k + 1)) && decide (0 < cd.ps.length)) by rw [HQ.out, sub_end cd.gs _ a b j (by have := HJ.out; omega), Bool.true_and])
                      have hJb2 : ¬ (J : Int) < (b : Int) := by omega
                      have HS9 := Lib.hid HS.out
                      clear HQ
                      go_wp2
                      go_roundw
                      case rel => exact ⟨k + 1, by omega, by go_num, HN, HS9⟩
                      case measure => simp [intOf]; omega
                · have HN := Lib.hid (show soundL cd = decide (0 < cd.ps.length) by rw [HQ.out, paths_end cd k (by omega), Bool.true_and])
                  have hkl : ¬ (k : Int) < cd.ps.length := by omega
                  by_cases hp : 0 < cd.ps.length
                  · have hpi : (0 : Int) < cd.ps.length := by omega
                    go_wp2
                    go_ret
                    exact ⟨ret_bool (by rw [HN.out, decide_eq_true hp]), HW.out⟩
                  · have hpi : ¬ (0 : Int) < cd.ps.length := by omega
                    go_wp2
                    go_ret
                    exact ⟨ret_bool (by rw [HN.out, decide_eq_false hp]), HW.out⟩

end Go.Proofs.Ythlcbjjeklkmfaa

