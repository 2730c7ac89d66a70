/- ref20: Singular. -/
import Derived.Test.YthlcbjjeklkmfaaVb
namespace Go.Proofs.Ythlcbjjeklkmfaa
open Go.RowKit

def US (w wr : World) (cv : Array Value) (A1 A2 A3 A4 : Option Addr) (cd : CodeD) : Prop := Blk wr w.heap.size 27 cv ∧ CM wr A1 A2 A3 A4 cd ∧ Bel w.heap.size w wr
theorem US.bel {w wr w2 : World} {cv : Array Value} {A1 A2 A3 A4 : Option Addr} {cd : CodeD} (h : US w wr cv A1 A2 A3 A4 cd) (hb : Bel wr.heap.size wr w2) : US w w2 cv A1 A2 A3 A4 cd := ⟨h.1.bel hb h.1.lt, h.2.1.bel hb, h.2.2.next hb⟩
theorem US.alloc {w wr : World} {cv : Array Value} {A1 A2 A3 A4 : Option Addr} {cd : CodeD} (h : US w wr cv A1 A2 A3 A4 cd) (o : Obj) : US w (wr.alloc o) cv A1 A2 A3 A4 cd := h.bel ((Bel.refl _ _).alloc (Nat.le_refl _) o)
theorem US.start {w : World} {cv : Array Value} {A1 A2 A3 A4 : Option Addr} {cd : CodeD} (h : CM w A1 A2 A3 A4 cd) : US w (w.alloc (.cells cv 27)) cv A1 A2 A3 A4 cd :=
  ⟨Blk.new _ _ _, h.bel ((Bel.refl _ _).alloc (Nat.le_refl _) _), (Bel.refl _ _).alloc (Nat.le_refl _) _⟩

set_option maxRecDepth 100000 in
set_option maxHeartbeats 2000000 in
theorem rsing_any (A1 A2 A3 A4 : Option Addr) (c1 c2 c3 c4 : Nat) (cd : CodeD) (p : Int) (w : World) (h : CM w A1 A2 A3 A4 cd) (l1 : cd.ps.length ≤ 1000000000) (l2 : cd.gs.length ≤ 1000000000) (l3 : cd.ss.length ≤ 1000000000) :
    Calls Try.prog 10 #[.agg #[.slice A1 cd.ps.length c1, .slice A2 cd.gs.length c2, .slice A3 cd.ss.length c3, .slice A4 cd.is.length c4], .int .i64 p] w fun e w' => e = .returned (.bool (singleOK cd p)) ∧ Bel w.heap.size w w' := by
  have hth := fun w h => there_any A1 A2 A3 A4 c1 c2 c3 c4 cd p w h l1 l2
  have HV := Lib.hid (show singleOK cd p = match getP cd p with | some x => pathOK cd x && (sub cd.gs x.fr x.tt).all (sglSeg cd) | none => false from rfl)
  have HT := Lib.hid (show thereOK cd p = match getP cd p with | some x => pathOK cd x | none => false from rfl)
  have HS0 := Lib.hid (US.start (cv := #[.slice A1 cd.ps.length c1, .slice A2 cd.gs.length c2, .slice A3 cd.ss.length c3, .slice A4 cd.is.length c4]) h)
  have HC0 := Lib.hid HS0.out.2.1
  cases ht : thereOK cd p with
  | false =>
    rw [ht] at hth HT
    have HQ := Lib.hid (show singleOK cd p = false by
      rw [HV.out]; have := HT.out
      cases hg : getP cd p with
      | none => rfl
      | some x => rw [hg] at this; simp only at this ⊢; rw [← this]; rfl)
    clear ht h
    go_enter Try.func10, Try.ntmps10
    go_wp2_with (go_at_call 16; refine (hth _ HC0.out).mono ?_; rintro e w1 ⟨rfl, hb⟩; have HS := Lib.hid (HS0.out.bel hb); clear hb)
    go_ret
    exact ⟨ret_bool HQ.out.symm, HS.out.2.2⟩
  | true =>
    rw [ht] at hth HT
    obtain ⟨x, hg, hpo⟩ : ∃ x, getP cd p = some x ∧ pathOK cd x = true := by
      have := HT.out
      cases hg : getP cd p with
      | none => rw [hg] at this; cases this
      | some x => rw [hg] at this; exact ⟨x, rfl, this.symm⟩
    have HQ := Lib.hid (show singleOK cd p = (sub cd.gs x.fr x.tt).all (sglSeg cd) by rw [HV.out, hg]; simp only; rw [hpo, Bool.true_and])
    clear HV HT ht
    have hp0 : ¬ p < 0 := by intro hn; unfold getP at hg; rw [if_pos hn] at hg; cases hg
    obtain ⟨j, rfl⟩ : ∃ j : Nat, p = j := ⟨p.toNat, by omega⟩
    have hx : cd.ps[j]? = some x := by unfold getP at hg; rw [if_neg hp0, Int.toNat_natCast] at hg; exact hg
    have hj : j < cd.ps.length := (List.getElem?_eq_some_iff.1 hx).1
    obtain ⟨b1, o1, e1, hb1, hc1⟩ := h.p.resolve_left (by intro e; rw [e] at hj; simp at hj)
    subst e1
    unfold pathOK at hpo
    simp only [Bool.and_eq_true] at hpo
    obtain ⟨hin, hall⟩ := hpo
    obtain ⟨pa, fr, tt⟩ := x
    have hin2 : 0 ≤ fr ∧ fr ≤ tt ∧ tt ≤ (cd.gs.length : Int) := by unfold inR at hin; simpa [and_assoc] using hin
    obtain ⟨a, rfl⟩ : ∃ a : Nat, fr = a := ⟨fr.toNat, by omega⟩
    obtain ⟨b, rfl⟩ : ∃ b : Nat, tt = b := ⟨tt.toNat, by omega⟩
    have hab : a ≤ b := by omega
    have hbl : b ≤ cd.gs.length := by omega
    have HA := Lib.hid (show ∀ k y, a ≤ k → k < b → cd.gs[k]? = some y → segOK cd y = true from fun k y h1 h2 hy => by
      rw [List.all_eq_true] at hall
      refine hall y ?_
      unfold sub
      rw [List.mem_iff_getElem?]
      refine ⟨k - a, ?_⟩
      simp only [Int.toNat_natCast]
      rw [List.getElem?_take_of_lt (by omega), List.getElem?_drop, show a + (k - a) = k by omega]
      exact hy)
    have HP := Lib.hid (show singleOK cd (j : Int) = ((cd.gs.drop a).take (b - a)).all (sglSeg cd) from HQ.out)
    have HX := Lib.hid hx
    clear hall hin hin2 hg hx hp0 HQ hc1 h
    go_enter Try.func10, Try.ntmps10
    go_upto_region 3 with (go_at_call 16; refine (hth _ HC0.out).mono ?_; rintro e w1 ⟨rfl, hb⟩; have HS := Lib.hid (HS0.out.bel hb); clear hb; obtain ⟨hx, hcm, hbe⟩ := HS.out; obtain ⟨xsz, ⟨x0, x1, x2, x3⟩, y0, y1, y2, y3⟩ := hx.four; have HC := Lib.hid hcm; have HW := Lib.hid hbe; clear hx hcm hbe; obtain ⟨bq, oq, eq, hbq, hcq⟩ := HC.out.p.resolve_left (by intro e; rw [e] at hj; simp at hj); injection eq with eq; injection eq with eqb eqo; subst eqb; subst eqo; obtain ⟨q0, q1, q2⟩ := hcq j _ HX.out; clear hcq)
    have hjl : (j : Int) < cd.ps.length := by omega
    go_wp2
    go_loopw [5] (fun i wr => ∃ k : Nat, a ≤ k ∧ k ≤ b ∧ i = .int .i64 k ∧ Hid (singleOK cd (j : Int) = ((cd.gs.drop k).take (b - k)).all (sglSeg cd)) ∧ Hid (US w wr #[.slice (some ⟨b1, o1, none⟩) cd.ps.length c1, .slice A2 cd.gs.length c2, .slice A3 cd.ss.length c3, .slice A4 cd.is.length c4] (some ⟨b1, o1, none⟩) A2 A3 A4 cd)) (fun i _ => b - (intOf i).toNat)
    case atStart => exact ⟨a, by omega, hab, rfl, HP, HS⟩
    case round =>
      clear HS HP xsz x0 x1 x2 x3 y0 y1 y2 y3 HC HW q0 q1 q2 hbq
      obtain ⟨k, hak, hkb, rfl, HP, HS⟩ := hrel
      obtain ⟨hx, hcm, hbe⟩ := HS.out; obtain ⟨xsz, ⟨x0, x1, x2, x3⟩, y0, y1, y2, y3⟩ := hx.four; have HC := Lib.hid hcm; have HW := Lib.hid hbe; clear hx hcm hbe
      obtain ⟨bq, oq, eq, hbq, hcq⟩ := HC.out.p.resolve_left (by intro e; rw [e] at hj; simp at hj); injection eq with eq; injection eq with eqb eqo; subst eqb; subst eqo; obtain ⟨q0, q1, q2⟩ := hcq j _ HX.out; clear hcq
      by_cases hlt : k < b
      · obtain ⟨y, hy⟩ : ∃ y, cd.gs[k]? = some y := ⟨_, List.getElem?_eq_getElem (by omega)⟩
        have HST := Lib.hid (show ((cd.gs.drop k).take (b - k)).all (sglSeg cd) = (sglSeg cd y && ((cd.gs.drop (k + 1)).take (b - (k + 1))).all (sglSeg cd)) by
          have hk : k < cd.gs.length := by omega
          have hyk : cd.gs[k] = y := by rw [List.getElem?_eq_getElem hk] at hy; injection hy
          rw [List.drop_eq_getElem_cons hk, show b - k = (b - (k + 1)) + 1 by omega, List.take_succ_cons, List.all_cons, hyk])
        have hso := HA.out k y hak hlt hy
        unfold segOK inR at hso
        simp only [Bool.and_eq_true, decide_eq_true_eq] at hso
        obtain ⟨⟨⟨hs1, hs2⟩, hs3⟩, hs4⟩ := hso
        obtain ⟨b2, o2, e2, hb2, hc2⟩ := HC.out.g.resolve_left (by intro e; rw [e] at hbl; simp at hbl; omega)
        subst e2
        obtain ⟨g0, g1, g2⟩ := hc2 k y hy
        obtain ⟨yd, yf, yt⟩ := y
        simp only at g0 g1 g2 hs1 hs2 hs3 hs4
        obtain ⟨f, rfl⟩ : ∃ f : Nat, yf = f := ⟨yf.toNat, by omega⟩
        have hf : f < cd.ss.length := by omega
        obtain ⟨z, hz⟩ : ∃ z, cd.ss[f]? = some z := ⟨_, List.getElem?_eq_getElem hf⟩
        obtain ⟨b3, o3, e3, hb3, hc3⟩ := HC.out.s.resolve_left (by intro e; rw [e] at hf; simp at hf)
        subst e3
        obtain ⟨z0, _⟩ := hc3 f z hz
        have HZ := Lib.hid (show sglSeg cd ⟨yd, (f : Int), yt⟩ = (!yd && decide (yt = (f : Int) + 1) && (z.kind == 0 || z.kind == 2)) by unfold sglSeg; simp only [Int.toNat_natCast, hz])
        obtain ⟨kd, hkd⟩ : ∃ kd, z.kind = kd := ⟨_, rfl⟩
        rw [hkd] at z0 HZ
        clear hc2 hc3 hy hz hkd
        have hkl : (k : Int) < cd.gs.length := by omega
        have hfl : (f : Int) < cd.ss.length := by omega
        cases yd with
        | true =>
          have HF := Lib.hid (show singleOK cd (j : Int) = false by rw [HP.out, HST.out, HZ.out]; rfl)
          go_wp2
          go_ret
          exact ⟨ret_bool HF.out.symm, by (repeat' (first | (with_reducible exact HW.out) | (with_reducible exact HB5.out) | (with_reducible refine Bel.setCell ?_ (by first | exact Nat.le_refl _ | (simp; omega) | omega | (simp <;> omega)) _) | (with_reducible refine Bel.alloc ?_ (by first | exact Nat.le_refl _ | (simp; omega) | omega | (simp <;> omega)) _) | (with_reducible refine Bel.drew ?_) | (with_reducible refine Bel.drewN ?_ _)))⟩
        | false =>
          by_cases h1 : yt = (f : Int) + 1
          · subst h1
            have hd1 : (((f : Int) + 1 - f) != 1) = false := by rw [bne_eq_false_iff_eq]; omega
            by_cases k0 : kd = 0
            · subst k0
              have HN := Lib.hid (HP.out.trans (by rw [HST.out, HZ.out]; simp : _ = ((cd.gs.drop (k + 1)).take (b - (k + 1))).all (sglSeg cd)))
              go_wp2
              go_roundw
              case rel => exact ⟨k + 1, by omega, by omega, by go_num, HN, Lib.hid (HS.out.alloc _)⟩
              case measure => simp [intOf]; omega
            · have hk0 : (kd != 0) = true := bne_iff_ne.2 k0
              by_cases k2 : kd = 2
              · subst k2
                have HN := Lib.hid (HP.out.trans (by rw [HST.out, HZ.out]; simp : _ = ((cd.gs.drop (k + 1)).take (b - (k + 1))).all (sglSeg cd)))
                go_wp2
                go_roundw
                case rel => exact ⟨k + 1, by omega, by omega, by go_num, HN, Lib.hid (HS.out.alloc _)⟩
                case measure => simp [intOf]; omega
              · have hk2 : (kd != 2) = true := bne_iff_ne.2 k2
                have HF := Lib.hid (show singleOK cd (j : Int) = false by rw [HP.out, HST.out, HZ.out]; simp [k0, k2])
                go_wp2
                go_ret
                exact ⟨ret_bool HF.out.symm, by (repeat' (first | (with_reducible exact HW.out) | (with_reducible exact HB5.out) | (with_reducible refine Bel.setCell ?_ (by first | exact Nat.le_refl _ | (simp; omega) | omega | (simp <;> omega)) _) | (with_reducible refine Bel.alloc ?_ (by first | exact Nat.le_refl _ | (simp; omega) | omega | (simp <;> omega)) _) | (with_reducible refine Bel.drew ?_) | (with_reducible refine Bel.drewN ?_ _)))⟩
          · have hd1 : ((yt - (f : Int)) != 1) = true := by rw [bne_iff_ne]; omega
            have HF := Lib.hid (show singleOK cd (j : Int) = false by rw [HP.out, HST.out, HZ.out]; simp [h1])
            go_wp2
            go_ret
            exact ⟨ret_bool HF.out.symm, by (repeat' (first | (with_reducible exact HW.out) | (with_reducible exact HB5.out) | (with_reducible refine Bel.setCell ?_ (by first | exact Nat.le_refl _ | (simp; omega) | omega | (simp <;> omega)) _) | (with_reducible refine Bel.alloc ?_ (by first | exact Nat.le_refl _ | (simp; omega) | omega | (simp <;> omega)) _) | (with_reducible refine Bel.drew ?_) | (with_reducible refine Bel.drewN ?_ _)))⟩
      · have HF := Lib.hid (show singleOK cd (j : Int) = true by rw [HP.out, show b - k = 0 by omega]; rfl)
        go_wp2
        go_ret
        exact ⟨ret_bool HF.out.symm, HW.out⟩

end Go.Proofs.Ythlcbjjeklkmfaa
