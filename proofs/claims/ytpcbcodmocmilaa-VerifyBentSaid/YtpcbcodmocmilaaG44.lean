/- G44: Vf, Vg, Vh joined. -/
import Derived.Recover
import Derived.Test.YtpcbcodmocmilaaG43
namespace Go.Proofs.Ytpcbcodmocmilaa
open Go.RowKit
/- verify: path, single. -/
section
open Go.RowKit

theorem need_any (b : Bool) (w : World) : Calls Try.prog 12 #[.bool b] w fun e w' => NP' b e ∧ w = w' := by
  cases b
  · exact need_f w
  · exact need_t w
theorem path_any (A1 A2 A3 A4 : Option Addr) (c1 c2 c3 c4 : Nat) (cd : CodeD) (p : Int) (w : World) (h : CM w A1 A2 A3 A4 cd) (l1 : cd.ps.length ≤ 1000000000) (l2 : cd.gs.length ≤ 1000000000) (l3 : cd.ss.length ≤ 1000000000) (lc : cd.gs.length ≤ c2) :
    Calls Try.prog 13 #[.agg #[.slice A1 cd.ps.length c1, .slice A2 cd.gs.length c2, .slice A3 cd.ss.length c3, .slice A4 cd.is.length c4], .int .i64 p] w (PathP cd p w) := by
  by_cases hp : p < 0 ∨ (cd.ps.length : Int) ≤ p
  · exact path_out A1 A2 A3 A4 c1 c2 c3 c4 cd p w hp
  · obtain ⟨j, rfl⟩ : ∃ j : Nat, p = j := ⟨p.toNat, by omega⟩
    have hj : j < cd.ps.length := by omega
    obtain ⟨x, hx⟩ : ∃ x, cd.ps[j]? = some x := ⟨_, List.getElem?_eq_getElem hj⟩
    cases hin : inR x.fr x.tt cd.gs.length with
    | false => exact path_bad A1 A2 A3 A4 c1 c2 c3 c4 cd j x w h hx l1 l2 hin
    | true =>
      obtain ⟨pa, fr, tt⟩ := x
      have hin2 : 0 ≤ fr ∧ fr ≤ tt ∧ tt ≤ (cd.gs.length : Int) := by unfold inR at hin; simpa [and_assoc] using hin
      obtain ⟨a, rfl⟩ : ∃ a : Nat, fr = a := ⟨fr.toNat, by omega⟩
      obtain ⟨b, rfl⟩ : ∃ b : Nat, tt = b := ⟨tt.toNat, by omega⟩
      exact path_in A1 A2 A3 A4 c1 c2 c3 c4 cd j pa a b w h hx l1 l2 l3 lc (by omega) (by omega)

set_option maxRecDepth 100000 in
set_option maxHeartbeats 2000000 in
theorem single_any (A1 A2 A3 A4 : Option Addr) (c1 c2 c3 c4 : Nat) (cd : CodeD) (p : Int) (w : World) (h : CM w A1 A2 A3 A4 cd) (l1 : cd.ps.length ≤ 1000000000) (l2 : cd.gs.length ≤ 1000000000) (l3 : cd.ss.length ≤ 1000000000) (lc : cd.gs.length ≤ c2) :
    Calls Try.prog 16 #[.agg #[.slice A1 cd.ps.length c1, .slice A2 cd.gs.length c2, .slice A3 cd.ss.length c3, .slice A4 cd.is.length c4], .int .i64 p] w fun e w' => NP' (singleOK cd p) e ∧ Bel w.heap.size w w' := by
  have hpa := fun w h => path_any A1 A2 A3 A4 c1 c2 c3 c4 cd p w h l1 l2 l3 lc
  have HV := Lib.hid (show singleOK cd p = match getP cd p with | some x => pathOK cd x && (sub cd.gs x.fr x.tt).all (sglSeg cd) | none => false from rfl)
  have HTH := Lib.hid (show thereOK cd p = match getP cd p with | some x => pathOK cd x | none => false from rfl)
  have hT : ∀ w', Bel w.heap.size w w' → singleOK cd p = true → (NP' (singleOK cd p) (.returned (.tuple #[])) ∧ Bel w.heap.size w w') := fun w' hb ht => ⟨by rw [ht]; rfl, hb⟩
  have hP : ∀ w', Bel w.heap.size w w' → singleOK cd p = false → (NP' (singleOK cd p) (.panicked FAULT) ∧ Bel w.heap.size w w') := fun w' hb ht => ⟨by rw [ht]; rfl, hb⟩
  generalize hPp : (fun e w' => NP' (singleOK cd p) e ∧ Bel w.heap.size w w') = PP
  replace hT : ∀ w', Bel w.heap.size w w' → singleOK cd p = true → PP (.returned (.tuple #[])) w' := fun w' hb h1 => by rw [← hPp]; exact hT w' hb h1
  replace hP : ∀ w', Bel w.heap.size w w' → singleOK cd p = false → PP (.panicked FAULT) w' := fun w' hb h1 => by rw [← hPp]; exact hP w' hb h1
  have HT := Lib.hid hT; have HP := Lib.hid hP; clear hT hP hPp
  have HS0 := Lib.hid (US.start (cv := #[.slice A1 cd.ps.length c1, .slice A2 cd.gs.length c2, .slice A3 cd.ss.length c3, .slice A4 cd.is.length c4]) h)
  have HC0 := Lib.hid HS0.out.2.1
  have HX0 := Lib.hid HS0.out.1
  unfold PathP at hpa
  cases ht : thereOK cd p with
  | false =>
    rw [ht] at hpa HTH
    have HQ := Lib.hid (show singleOK cd p = false by
      rw [HV.out]; have := HTH.out
      cases hg : getP cd p with
      | none => rfl
      | some x => rw [hg] at this; simp only at this ⊢; rw [← this]; rfl)
    clear ht h
    obtain ⟨xsz, ⟨x0, x1, x2, x3⟩, y0, y1, y2, y3⟩ := HX0.out.four
    clear HX0
    go_enter Try.func16, Try.ntmps16
    go_wp2_with (go_at_call 13; refine (hpa _ HC0.out).mono ?_; rintro e w1 ⟨hb, rfl⟩; have HS := Lib.hid (HS0.out.bel hb); clear hb)
    exact ⟨rfl, HP.out _ HS.out.2.2 HQ.out⟩
  | true =>
    rw [ht] at hpa HTH
    obtain ⟨x, hg, hpo⟩ : ∃ x, getP cd p = some x ∧ pathOK cd x = true := by
      have := HTH.out
      cases hg : getP cd p with
      | none => rw [hg] at this; cases this
      | some x => rw [hg] at this; exact ⟨x, rfl, this.symm⟩
    rw [hg] at hpa
    have HQ := Lib.hid (show singleOK cd p = (sub cd.gs x.fr x.tt).all (sglSeg cd) by rw [HV.out, hg]; simp only; rw [hpo, Bool.true_and])
    clear HV HTH ht
    unfold pathOK at hpo
    simp only [Bool.and_eq_true] at hpo
    obtain ⟨hin, hall⟩ := hpo
    obtain ⟨pa, fr, tt⟩ := x
    have hin2 : 0 ≤ fr ∧ fr ≤ tt ∧ tt ≤ (cd.gs.length : Int) := by unfold inR at hin; simpa [and_assoc] using hin
    obtain ⟨a, rfl⟩ : ∃ a : Nat, fr = a := ⟨fr.toNat, by omega⟩
    obtain ⟨b, rfl⟩ : ∃ b : Nat, tt = b := ⟨tt.toNat, by omega⟩
    have hab : a ≤ b := by omega
    have hbl : b ≤ cd.gs.length := by omega
    simp only at hpa
    have HA := Lib.hid (show ∀ k y, a ≤ k → k < b → cd.gs[k]? = some y → segOK cd y = true from fun k y h1 h2 hy => by
      rw [List.all_eq_true] at hall
      refine hall y ?_
      unfold sub
      rw [List.mem_iff_getElem?]
      refine ⟨k - a, ?_⟩
      simp only [Int.toNat_natCast]
      rw [List.getElem?_take_of_lt (by omega), List.getElem?_drop, show a + (k - a) = k by omega]
      exact hy)
    have HQ2 : Hid (singleOK cd p = ((cd.gs.drop (a + 0)).take (b - (a + 0))).all (sglSeg cd)) := Lib.hid HQ.out
    have HG := Lib.hid h.g
    clear hall hin hin2 hg HQ h
    obtain ⟨xsz, ⟨x0, x1, x2, x3⟩, y0, y1, y2, y3⟩ := HX0.out.four
    clear HX0
    go_enter Try.func16, Try.ntmps16
    go_upto_region 2 with (go_at_call 13; refine (hpa _ HC0.out).mono ?_; rintro e w1 ⟨hb, rfl⟩; have HS := Lib.hid (HS0.out.bel hb); clear hb; clear xsz x0 x1 x2 x3 y0 y1 y2 y3; obtain ⟨hx0, hcm, hbe⟩ := HS.out; obtain ⟨xsz, ⟨x0, x1, x2, x3⟩, y0, y1, y2, y3⟩ := hx0.four; have HC := Lib.hid hcm; have HW := Lib.hid hbe; clear hx0 hcm hbe)
    go_cut [17, 18, 19] (fun u v i wx => ∃ (X : Option Addr) (cap : Nat), u = .slice X (b - a) cap ∧ v = .int .i64 ((b : Int) - a) ∧ i = .int .i64 0 ∧ Hid (a < b → ∃ b2 o2, A2 = some ⟨b2, o2, none⟩ ∧ X = some ⟨b2, o2 + a * 3, none⟩) ∧ Hid (US w wx #[.slice A1 cd.ps.length c1, .slice A2 cd.gs.length c2, .slice A3 cd.ss.length c3, .slice A4 cd.is.length c4] A1 A2 A3 A4 cd))
    case first =>
      have HS1 := Lib.hid (HS.out.alloc (.cells #[.bool pa, .int .i64 (a : Int), .int .i64 (b : Int)] 40))
      rcases HG.out with hgs | ⟨b2, o2, e2, _, _⟩
      · obtain rfl : b = 0 := by rw [hgs] at hbl; simp at hbl; exact hbl
        obtain rfl : a = 0 := by omega
        clear HG hgs
        rcases A2 with _ | ⟨b2, o2, p2⟩
        · go_wp2
          all_goals
            go_meet
            case rel => exact ⟨_, _, rfl, rfl, rfl, Lib.hid (fun h => by exfalso; omega), HS1⟩
        · go_wp2
          all_goals
            go_meet
            case rel => exact ⟨_, _, rfl, rfl, rfl, Lib.hid (fun h => by exfalso; omega), HS1⟩
      · subst e2
        clear HG
        have e3 : ((b - a : Nat) : Int) = (b : Int) - a := by omega
        by_cases hca : c2 = a
        · subst hca
          go_wp2
          all_goals
            go_meet
            case rel => exact ⟨_, _, rfl, rfl, rfl, Lib.hid (fun h => by first | exact ⟨_, _, rfl, rfl⟩ | (exfalso; omega)), HS1⟩
        · go_wp2
          all_goals
            go_meet
            case rel => exact ⟨_, _, rfl, rfl, rfl, Lib.hid (fun h => by first | exact ⟨_, _, rfl, rfl⟩ | (exfalso; omega)), HS1⟩
    case rest =>
      obtain ⟨X, cap, rfl, rfl, rfl, HX, HS2⟩ := hcut
      clear HG HS0 HS HC HW xsz x0 x1 x2 x3 y0 y1 y2 y3 HC0
      go_wp2
      go_loopw [19] (fun i wr => ∃ k : Nat, k ≤ b - a ∧ i = .int .i64 k ∧ Hid (singleOK cd p = ((cd.gs.drop (a + k)).take (b - (a + k))).all (sglSeg cd)) ∧ Hid (US w wr #[.slice A1 cd.ps.length c1, .slice A2 cd.gs.length c2, .slice A3 cd.ss.length c3, .slice A4 cd.is.length c4] A1 A2 A3 A4 cd)) (fun i _ => b - a - (intOf i).toNat)
      case atStart => exact ⟨0, by omega, rfl, HQ2, HS2⟩
      case round =>
        clear HS2 HQ2
        obtain ⟨k, hkb, rfl, HQ, HS⟩ := hrel
        obtain ⟨hx0, hcm, hbe⟩ := HS.out; obtain ⟨xsz, ⟨x0, x1, x2, x3⟩, y0, y1, y2, y3⟩ := hx0.four; have HC := Lib.hid hcm; have HW := Lib.hid hbe; clear hx0 hcm hbe
        by_cases hlt : k < b - a
        · obtain ⟨y, hy⟩ : ∃ y, cd.gs[a + k]? = some y := ⟨_, List.getElem?_eq_getElem (by omega)⟩
          have HST := Lib.hid (show ((cd.gs.drop (a + k)).take (b - (a + k))).all (sglSeg cd) = (sglSeg cd y && ((cd.gs.drop (a + (k + 1))).take (b - (a + (k + 1)))).all (sglSeg cd)) by
            have hk : a + k < cd.gs.length := by omega
            have hyk : cd.gs[a + k] = y := by rw [List.getElem?_eq_getElem hk] at hy; injection hy
            rw [List.drop_eq_getElem_cons hk, show b - (a + k) = (b - (a + (k + 1))) + 1 by omega, List.take_succ_cons, List.all_cons, hyk]; rfl)
          have hso := HA.out (a + k) y (by omega) (by omega) hy
          unfold segOK inR at hso
          simp only [Bool.and_eq_true, decide_eq_true_eq] at hso
          obtain ⟨⟨⟨hs1, hs2⟩, hs3⟩, hs4⟩ := hso
          obtain ⟨b2, o2, e2, ex⟩ := HX.out (by omega)
          subst ex; subst e2
          obtain ⟨bq, oq, eq, hbq, hcq⟩ := HC.out.g.resolve_left (by intro e; rw [e] at hbl; simp at hbl; omega)
          injection eq with eq; injection eq with eqb eqo; subst eqb; subst eqo
          obtain ⟨g0, g1, g2⟩ := hcq (a + k) y hy
          have eo : o2 + (a + k) * 3 = o2 + a * 3 + k * 3 := by omega
          rw [eo] at g0 g1 g2
          clear hcq hy eo
          obtain ⟨yd, yf, yt⟩ := y
          simp only at g0 g1 g2 hs1 hs2 hs3 hs4
          obtain ⟨f, rfl⟩ : ∃ f : Nat, yf = f := ⟨yf.toNat, by omega⟩
          have hf : f < cd.ss.length := by omega
          obtain ⟨z, hz⟩ : ∃ z, cd.ss[f]? = some z := ⟨_, List.getElem?_eq_getElem hf⟩
          obtain ⟨b3, o3, e3, hb3, hc3⟩ := HC.out.s.resolve_left (by intro e; rw [e] at hf; simp at hf)
          subst e3
          obtain ⟨z0, _⟩ := hc3 f z hz
          have HZ := Lib.hid (show sglSeg cd ⟨yd, (f : Int), yt⟩ = (!yd && decide (yt = (f : Int) + 1) && (z.kind == 0 || z.kind == 2)) by unfold sglSeg; simp only [Int.toNat_natCast, hz])
          obtain ⟨kd, hkd⟩ : ∃ kd, z.kind = kd := ⟨_, rfl⟩
          rw [hkd] at z0 HZ
          clear hc3 hz hkd
          have hkl : (k : Int) < (b : Int) - a := by omega
          have hfl : (f : Int) < cd.ss.length := by omega
          cases yd with
          | true =>
            have HF := Lib.hid (show singleOK cd p = false by rw [HQ.out, HST.out, HZ.out]; rfl)
            go_wp2_with (go_at_call 12; refine (need_any _ _).mono ?_; rintro e w2 ⟨he, rfl⟩; obtain rfl := (show _ = _ by first | exact np_t he | exact np_f he))
            exact ⟨rfl, HP.out _ (by (repeat' (first | (with_reducible exact HW.out) | (with_reducible exact HB5.out) | (with_reducible refine Bel.setCell ?_ (by first | exact Nat.le_refl _ | (simp; omega) | omega | (simp <;> omega)) _) | (with_reducible refine Bel.alloc ?_ (by first | exact Nat.le_refl _ | (simp; omega) | omega | (simp <;> omega)) _) | (with_reducible refine Bel.drew ?_) | (with_reducible refine Bel.drewN ?_ _)))) HF.out⟩
          | false =>
            by_cases h1 : yt = (f : Int) + 1
            · subst h1
              by_cases k0 : kd = 0
              · subst k0
                have HN := Lib.hid (HQ.out.trans (by rw [HST.out, HZ.out]; simp : _ = ((cd.gs.drop (a + (k + 1))).take (b - (a + (k + 1)))).all (sglSeg cd)))
                go_wp2_with (go_at_call 12; refine (need_any _ _).mono ?_; rintro e w2 ⟨he, rfl⟩; obtain rfl := (show _ = _ by first | exact np_t he | exact np_f he))
                go_roundw
                case rel => exact ⟨k + 1, by omega, by go_num, HN, Lib.hid (HS.out.alloc _)⟩
                case measure => simp [intOf]; omega
              · have hk0 : (kd == 0) = false := beq_eq_false_iff_ne.2 k0
                by_cases k2 : kd = 2
                · subst k2
                  have HN := Lib.hid (HQ.out.trans (by rw [HST.out, HZ.out]; simp : _ = ((cd.gs.drop (a + (k + 1))).take (b - (a + (k + 1)))).all (sglSeg cd)))
                  go_wp2_with (go_at_call 12; refine (need_any _ _).mono ?_; rintro e w2 ⟨he, rfl⟩; obtain rfl := (show _ = _ by first | exact np_t he | exact np_f he))
                  go_roundw
                  case rel => exact ⟨k + 1, by omega, by go_num, HN, Lib.hid (HS.out.alloc _)⟩
                  case measure => simp [intOf]; omega
                · have hk2 : (kd == 2) = false := beq_eq_false_iff_ne.2 k2
                  have HF := Lib.hid (show singleOK cd p = false by rw [HQ.out, HST.out, HZ.out]; simp [k0, k2])
                  go_wp2_with (go_at_call 12; refine (need_any _ _).mono ?_; rintro e w2 ⟨he, rfl⟩; obtain rfl := (show _ = _ by first | exact np_t he | exact np_f he))
                  exact ⟨rfl, HP.out _ (by (repeat' (first | (with_reducible exact HW.out) | (with_reducible exact HB5.out) | (with_reducible refine Bel.setCell ?_ (by first | exact Nat.le_refl _ | (simp; omega) | omega | (simp <;> omega)) _) | (with_reducible refine Bel.alloc ?_ (by first | exact Nat.le_refl _ | (simp; omega) | omega | (simp <;> omega)) _) | (with_reducible refine Bel.drew ?_) | (with_reducible refine Bel.drewN ?_ _)))) HF.out⟩
            · have hd1 : (yt == ((f : Int) + 1)) = false := beq_eq_false_iff_ne.2 h1
              have HF := Lib.hid (show singleOK cd p = false by rw [HQ.out, HST.out, HZ.out]; simp [h1])
              go_wp2_with (go_at_call 12; refine (need_any _ _).mono ?_; rintro e w2 ⟨he, rfl⟩; obtain rfl := (show _ = _ by first | exact np_t he | exact np_f he))
              exact ⟨rfl, HP.out _ (by (repeat' (first | (with_reducible exact HW.out) | (with_reducible exact HB5.out) | (with_reducible refine Bel.setCell ?_ (by first | exact Nat.le_refl _ | (simp; omega) | omega | (simp <;> omega)) _) | (with_reducible refine Bel.alloc ?_ (by first | exact Nat.le_refl _ | (simp; omega) | omega | (simp <;> omega)) _) | (with_reducible refine Bel.drew ?_) | (with_reducible refine Bel.drewN ?_ _)))) HF.out⟩
        · have HF := Lib.hid (show singleOK cd p = true by rw [HQ.out, show b - (a + k) = 0 by omega]; rfl)
          have hkl : ¬ (k : Int) < (b : Int) - a := by omega
          go_wp2
          go_end0
          exact HT.out _ HW.out HF.out

end
/- verify: caught (recover). -/
section
open Go.RowKit

set_option maxRecDepth 100000 in
set_option maxHeartbeats 1000000 in
theorem caught_idle (p : Addr) (x : Bool) (w : World) (hc : w.cell? p = some (.bool x)) (hz : w.frozen? p = false) :
    CallsD Try.prog 11 #[.pointer (some p)] .returning w fun e u' w' => e = .returned (.tuple #[]) ∧ u' = .returning ∧ w' = w.setCell p (.bool true) := by
  refine callsD_of_wpS Try.func11 rfl fun c₀ cs hu => ?_
  apply wpS_seq
  apply wpS_region
  simp [wpOpsS, go_sem, recoverD, hu, Try.ntmps11, Exit.thenS]
  refine wpS_of_wp ?_
  go_wp2
  cases c₀
  simp_all [bodyPostS, results, Try.results11]

set_option maxRecDepth 100000 in
set_option maxHeartbeats 1000000 in
theorem caught_fault (p : Addr) (w : World) :
    CallsD Try.prog 11 #[.pointer (some p)] (.panicking FAULT) w fun e u' w' => e = .returned (.tuple #[]) ∧ u' = .panicking [{ v := .iface 73 (.agg #[]), recovered := true }] ∧ w' = w.alloc (.cells #[] 73) := by
  refine callsD_of_wpS Try.func11 rfl fun c₀ cs hu => ?_
  unfold FAULT at hu
  have hta : ∀ w, (Instr.typeAssert (.iface 73 (.agg #[])) 20 73 true).run Try.prog w = .ok (.tuple #[.agg #[], .bool true]) w := fun w => by kernel_rfl
  apply wpS_seq
  apply wpS_region
  simp [wpOpsS, go_sem, recoverD, hu, Try.ntmps11, Exit.thenS]
  refine wpS_of_wp ?_
  go_wp2
  simp [bodyPostS, results, Try.results11]

/-- The code's box and the result's cell. -/
def RS (w wr : World) (cv : Array Value) (r : Bool) (A1 A2 A3 A4 : Option Addr) (cd : CodeD) : Prop :=
  Blk wr w.heap.size 29 cv ∧ Blk wr (w.heap.size + 1) 4 #[.bool r] ∧ CM wr A1 A2 A3 A4 cd ∧ Bel w.heap.size w wr
theorem RS.bel {w wr w2 : World} {cv : Array Value} {r : Bool} {A1 A2 A3 A4 : Option Addr} {cd : CodeD} (h : RS w wr cv r A1 A2 A3 A4 cd) (hb : Bel wr.heap.size wr w2) : RS w w2 cv r A1 A2 A3 A4 cd :=
  ⟨h.1.bel hb h.1.lt, h.2.1.bel hb h.2.1.lt, h.2.2.1.bel hb, h.2.2.2.next hb⟩
theorem RS.start {w : World} {cv : Array Value} {r : Bool} {A1 A2 A3 A4 : Option Addr} {cd : CodeD} (h : CM w A1 A2 A3 A4 cd) : RS w ((w.alloc (.cells cv 29)).alloc (.cells #[.bool r] 4)) cv r A1 A2 A3 A4 cd :=
  ⟨(Blk.new _ _ _).alloc _, Blk.new1 _ _ _ _, h.bel (((Bel.refl _ _).alloc (Nat.le_refl _) _).alloc (by simp) _), ((Bel.refl _ _).alloc (Nat.le_refl _) _).alloc (by simp) _⟩

set_option maxRecDepth 100000 in
set_option maxHeartbeats 1000000 in
theorem psing_any (A1 A2 A3 A4 : Option Addr) (c1 c2 c3 c4 : Nat) (cd : CodeD) (p : Int) (w : World) (h : CM w A1 A2 A3 A4 cd) (l1 : cd.ps.length ≤ 1000000000) (l2 : cd.gs.length ≤ 1000000000) (l3 : cd.ss.length ≤ 1000000000) (lc : cd.gs.length ≤ c2) :
    Calls Try.prog 8 #[.agg #[.slice A1 cd.ps.length c1, .slice A2 cd.gs.length c2, .slice A3 cd.ss.length c3, .slice A4 cd.is.length c4], .int .i64 p] w fun e w' => e = .returned (.bool (singleOK cd p)) ∧ Bel w.heap.size w w' := by
  have hsi := fun w h => single_any A1 A2 A3 A4 c1 c2 c3 c4 cd p w h l1 l2 l3 lc
  have HS0 := Lib.hid (RS.start (cv := #[.slice A1 cd.ps.length c1, .slice A2 cd.gs.length c2, .slice A3 cd.ss.length c3, .slice A4 cd.is.length c4]) (r := false) h)
  have HC0 := Lib.hid HS0.out.2.2.1
  obtain ⟨r, hr⟩ : ∃ r, singleOK cd p = r := ⟨_, rfl⟩
  rw [hr] at hsi ⊢
  unfold NP' at hsi
  clear h
  cases r with
  | true =>
    simp only [if_true] at hsi
    go_enter_defers Try.func8, Try.ntmps8
    go_wp2_with (go_at_call 16; refine (hsi _ HC0.out).mono ?_; rintro e w1 ⟨rfl, hb⟩; have HS := Lib.hid (HS0.out.bel hb); clear hb; have hxsz := HS.out.2.1.lt; have hx0 : w1.cell? ⟨w.heap.size + 1, 0, none⟩ = some (.bool false) := HS.out.2.1.cell 0; have hy0 := HS.out.2.1.frozen 0)
    refine leaves_cons (f := 11) (args := #[.pointer (some ⟨w.heap.size + 1, 0, none⟩)]) (by simp) (by simp [go_sem]) ?_
    refine (caught_idle ⟨w.heap.size + 1, 0, none⟩ true _ ?_ ?_).mono ?_
    · simp [go_sem, hx0]
    · simp [go_sem, hy0]
    rintro e u' w'' ⟨rfl, rfl, rfl⟩
    simp [Leaves, settle, results, Try.results8, go_sem, hx0]
    exact (HS.out.2.2.2.setCell (by simp) _).setCell (by simp) _
  | false =>
    simp only [Bool.false_eq_true, if_false] at hsi
    go_enter_defers Try.func8, Try.ntmps8
    go_wp2_with (go_at_call 16; refine (hsi _ HC0.out).mono ?_; rintro e w1 ⟨rfl, hb⟩; have HS := Lib.hid (HS0.out.bel hb); clear hb; have hxsz := HS.out.2.1.lt; have hx0 : w1.cell? ⟨w.heap.size + 1, 0, none⟩ = some (.bool false) := HS.out.2.1.cell 0; have hy0 := HS.out.2.1.frozen 0)
    refine leaves_cons (f := 11) (args := #[.pointer (some ⟨w.heap.size + 1, 0, none⟩)]) (by simp) (by simp [go_sem]) ?_
    refine (caught_fault ⟨w.heap.size + 1, 0, none⟩ _).mono ?_
    rintro e u' w'' ⟨rfl, rfl, rfl⟩
    simp [Leaves, settle, results, Try.results8, go_sem, hx0, hxsz]
    exact HS.out.2.2.2.alloc HS.out.2.2.2.size _

end
/- verify: end, instruction. -/
section
open Go.RowKit

def endF (l : List InsD) : Option Nat := l.findIdx? (fun x => x.op == 5)
def endI (cd : CodeD) (at_ : Int) : Option Nat := if at_ < 0 then none else endF (cd.is.drop at_.toNat)
def EndP (cd : CodeD) (at_ : Int) (w : World) (e : Ending) (w' : World) : Prop := Bel w.heap.size w w' ∧ match endI cd at_ with | some n => e = .returned (.int .i64 (at_ + (n : Int))) | none => e = .panicked FAULT
theorem endF_cons (x : InsD) (l : List InsD) : endF (x :: l) = if x.op == 5 then some 0 else (endF l).map (· + 1) := by
  unfold endF; rw [List.findIdx?_cons]
theorem map_add (o : Option Nat) (k : Nat) : (o.map (· + 1)).map (· + k) = o.map (· + (k + 1)) := by cases o <;> simp <;> omega

set_option maxRecDepth 100000 in
set_option maxHeartbeats 1000000 in
theorem end_any (A1 A2 A3 A4 : Option Addr) (c1 c2 c3 c4 : Nat) (cd : CodeD) (at_ : Int) (w : World) (h : CM w A1 A2 A3 A4 cd) (l4 : cd.is.length ≤ 1000000000) :
    Calls Try.prog 23 #[.agg #[.slice A1 cd.ps.length c1, .slice A2 cd.gs.length c2, .slice A3 cd.ss.length c3, .slice A4 cd.is.length c4], .int .i64 at_] w (EndP cd at_ w) := by
  have hT : ∀ w' n, Bel w.heap.size w w' → endI cd at_ = some n → EndP cd at_ w (.returned (.int .i64 (at_ + (n : Int)))) w' := fun w' n hb ht => ⟨hb, by rw [ht]⟩
  have hP : ∀ w', Bel w.heap.size w w' → endI cd at_ = none → EndP cd at_ w (.panicked FAULT) w' := fun w' hb ht => ⟨hb, by rw [ht]⟩
  generalize hPp : EndP cd at_ w = PP at hT hP ⊢
  have HT := Lib.hid hT; have HP := Lib.hid hP; clear hT hP hPp
  by_cases h0 : 0 ≤ at_
  rotate_left
  · have HF := Lib.hid (show endI cd at_ = none by unfold endI; rw [if_pos (by omega)])
    clear h
    go_enter Try.func23, Try.ntmps23
    go_wp2_with (go_at_call 12; refine (need_any _ _).mono ?_; rintro e w2 ⟨he, rfl⟩; obtain rfl := (show _ = _ by first | exact np_t he | exact np_f he))
    exact ⟨rfl, HP.out _ ((Bel.refl _ _).alloc (Nat.le_refl _) _) HF.out⟩
  · obtain ⟨a, rfl⟩ : ∃ a : Nat, at_ = a := ⟨at_.toNat, by omega⟩
    have HE := Lib.hid (show endI cd (a : Int) = (endF (cd.is.drop (a + 0))).map (· + 0) by unfold endI; rw [if_neg (by omega), Int.toNat_natCast]; cases endF (cd.is.drop (a + 0)) <;> simp_all)
    have HH := Lib.hid h
    clear h h0
    go_enter Try.func23, Try.ntmps23
    go_wp2_with (go_at_call 12; refine (need_any _ _).mono ?_; rintro e w2 ⟨he, rfl⟩; obtain rfl := (show _ = _ by first | exact np_t he | exact np_f he))
    go_loopw [1] (fun i wr => ∃ k : Nat, (k = 0 ∨ a + k ≤ cd.is.length) ∧ i = .int .i64 ((a + k : Nat) : Int) ∧ wr = w.alloc (.cells #[.slice A1 cd.ps.length c1, .slice A2 cd.gs.length c2, .slice A3 cd.ss.length c3, .slice A4 cd.is.length c4] 29) ∧ Hid (endI cd (a : Int) = (endF (cd.is.drop (a + k))).map (· + k))) (fun i _ => cd.is.length - (intOf i).toNat)
    case atStart => exact ⟨0, .inl rfl, rfl, rfl, HE⟩
    case round =>
      clear HE
      obtain ⟨k, hk0, rfl, rfl, HE⟩ := hrel
      obtain ⟨j, hj⟩ : ∃ j, a + k = j := ⟨_, rfl⟩
      have HJ := Lib.hid hj
      rw [hj] at HE hk0 ⊢
      clear hj
      by_cases hlt : j < cd.is.length
      · obtain ⟨x, hx⟩ : ∃ x, cd.is[j]? = some x := ⟨_, List.getElem?_eq_getElem hlt⟩
        have HST := Lib.hid (show endF (cd.is.drop j) = if x.op == 5 then some 0 else (endF (cd.is.drop (j + 1))).map (· + 1) by
          have hxj : cd.is[j] = x := by rw [List.getElem?_eq_getElem hlt] at hx; injection hx
          rw [List.drop_eq_getElem_cons hlt, hxj, endF_cons])
        obtain ⟨b4, o4, e4, hb4, hc4⟩ := HH.out.i.resolve_left (by intro e; rw [e] at hlt; simp at hlt)
        subst e4
        obtain ⟨g0, _⟩ := hc4 j x hx
        have hjl : (j : Int) < cd.is.length := by omega
        obtain ⟨op, hop⟩ : ∃ op, x.op = op := ⟨_, rfl⟩
        rw [hop] at g0 HST
        clear hc4 hx hop
        by_cases h5 : op = 5
        · subst h5
          have HF := Lib.hid (show endI cd (a : Int) = some k by rw [HE.out, HST.out]; simp)
          clear HE HST
          go_wp2_with (go_at_call 12; refine (need_any _ _).mono ?_; rintro e w2 ⟨he, rfl⟩; obtain rfl := (show _ = _ by first | exact np_t he | exact np_f he))
          have := HT.out (w.alloc (.cells #[.slice A1 cd.ps.length c1, .slice A2 cd.gs.length c2, .slice A3 cd.ss.length c3, .slice (some ⟨b4, o4, none⟩) cd.is.length c4] 29)) k ((Bel.refl _ _).alloc (Nat.le_refl _) _) HF.out
          rw [show (a : Int) + (k : Int) = (j : Int) by have := HJ.out; omega] at this
          exact this
        · have hd5 : (op == 5) = false := beq_eq_false_iff_ne.2 h5
          have HN := Lib.hid (show endI cd (a : Int) = (endF (cd.is.drop (j + 1))).map (· + (k + 1)) by rw [HE.out, HST.out, hd5]; simp only [Bool.false_eq_true, if_false]; exact map_add _ _)
          clear HE HST
          go_wp2_with (go_at_call 12; refine (need_any _ _).mono ?_; rintro e w2 ⟨he, rfl⟩; obtain rfl := (show _ = _ by first | exact np_t he | exact np_f he))
          go_roundw
          case rel => exact ⟨k + 1, .inr (by have := HJ.out; omega), by have := HJ.out; rw [show a + (k + 1) = j + 1 by omega]; go_num, trivial, by have := HJ.out; rw [show a + (k + 1) = j + 1 by omega]; exact HN⟩
          case measure => simp [intOf]; omega
      · have HF := Lib.hid (show endI cd (a : Int) = none by rw [HE.out, List.drop_eq_nil_of_le (by omega)]; rfl)
        have hjl : ¬ (j : Int) < cd.is.length := by omega
        clear HE
        go_wp2_with (go_at_call 12; refine (need_any _ _).mono ?_; rintro e w2 ⟨he, rfl⟩; obtain rfl := (show _ = _ by first | exact np_t he | exact np_f he))
        exact ⟨rfl, HP.out _ ((Bel.refl _ _).alloc (Nat.le_refl _) _) HF.out⟩

end

end Go.Proofs.Ytpcbcodmocmilaa
