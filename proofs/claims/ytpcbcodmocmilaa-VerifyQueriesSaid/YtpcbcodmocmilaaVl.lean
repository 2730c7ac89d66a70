/- verify: Sound. -/
import Derived.Test.YtpcbcodmocmilaaVk
namespace Go.Proofs.Ytpcbcodmocmilaa
open Go.RowKit

theorem RS.alloc {w wr : World} {cv : Array Value} {r : Bool} {A1 A2 A3 A4 : Option Addr} {cd : CodeD} (h : RS w wr cv r A1 A2 A3 A4 cd) (o : Obj) : RS w (wr.alloc o) cv r A1 A2 A3 A4 cd := h.bel ((Bel.refl _ _).alloc (Nat.le_refl _) o)
theorem RS.drew {w wr : World} {cv : Array Value} {r : Bool} {A1 A2 A3 A4 : Option Addr} {cd : CodeD} (h : RS w wr cv r A1 A2 A3 A4 cd) : RS w wr.drew cv r A1 A2 A3 A4 cd := h.bel (Bel.refl _ _).drew
theorem all_step {α : Type} (l : List α) (f : α → Bool) (k : Nat) (x : α) (h : l[k]? = some x) : (l.drop k).all f = (f x && (l.drop (k + 1)).all f) := by
  obtain ⟨hl, hx⟩ := List.getElem?_eq_some_iff.1 h
  rw [List.drop_eq_getElem_cons hl, List.all_cons, hx]
theorem all_end {α : Type} (l : List α) (f : α → Bool) (k : Nat) (h : l.length ≤ k) : (l.drop k).all f = true := by rw [List.drop_eq_nil_of_le h]; rfl
def FY (cd : CodeD) (i : Nat) (y : SelD) : Bool := y.kind != 4 || filterOK cd i y.at_
def FS (cd : CodeD) (i : Nat) (s : SegD) : Bool := (sub cd.ss s.fr s.tt).all (FY cd i)
theorem paths_step (cd : CodeD) (k : Nat) (x : PathD) (h : cd.ps[k]? = some x) : pathsFrom cd k (cd.ps.drop k) = ((sub cd.gs x.fr x.tt).all (FS cd k) && pathsFrom cd (k + 1) (cd.ps.drop (k + 1))) := by
  obtain ⟨hl, hx⟩ := List.getElem?_eq_some_iff.1 h
  rw [List.drop_eq_getElem_cons hl, pathsFrom, hx]; rfl
theorem paths_end (cd : CodeD) (k : Nat) (h : cd.ps.length ≤ k) : pathsFrom cd k (cd.ps.drop k) = true := by rw [List.drop_eq_nil_of_le h]; rfl
theorem sub_step {α : Type} (l : List α) (f : α → Bool) (a b k : Nat) (y : α) (hk : a + k < b) (h : l[a + k]? = some y) : ((l.drop (a + k)).take (b - (a + k))).all f = (f y && ((l.drop (a + (k + 1))).take (b - (a + (k + 1)))).all f) := by
  obtain ⟨hl, hx⟩ := List.getElem?_eq_some_iff.1 h
  rw [List.drop_eq_getElem_cons hl, show b - (a + k) = (b - (a + (k + 1))) + 1 by omega, List.take_succ_cons, List.all_cons, hx]; rfl
theorem sub_end {α : Type} (l : List α) (f : α → Bool) (a b k : Nat) (hk : b ≤ a + k) : ((l.drop (a + k)).take (b - (a + k))).all f = true := by rw [show b - (a + k) = 0 by omega]; rfl
theorem there_at (cd : CodeD) (k : Nat) (x : PathD) (h : cd.ps[k]? = some x) : thereOK cd (k : Int) = pathOK cd x := by
  unfold thereOK getP; rw [if_neg (by omega), Int.toNat_natCast, h]

set_option maxRecDepth 100000 in
set_option maxHeartbeats 4000000 in
theorem psound_any (A1 A2 A3 A4 : Option Addr) (c1 c2 c3 c4 : Nat) (cd : CodeD) (w : World) (h : CM w A1 A2 A3 A4 cd) (l1 : cd.ps.length ≤ 1000000000) (l2 : cd.gs.length ≤ 1000000000) (l3 : cd.ss.length ≤ 1000000000) (l4 : cd.is.length ≤ 1000000000) (lc : cd.gs.length ≤ c2) (lc3 : cd.ss.length ≤ c3) :
    Calls Try.prog 7 #[.agg #[.slice A1 cd.ps.length c1, .slice A2 cd.gs.length c2, .slice A3 cd.ss.length c3, .slice A4 cd.is.length c4]] w fun e w' => e = .returned (.bool (soundL cd)) ∧ Bel w.heap.size w w' := by
  have hpa0 := fun p w h => path_any A1 A2 A3 A4 c1 c2 c3 c4 cd p w h l1 l2 l3 lc
  have hin0 := fun p at_ w h => instrs_any A1 A2 A3 A4 c1 c2 c3 c4 cd p at_ w h l1 l2 l3 l4 lc
  have hT : ∀ w', Bel w.heap.size w w' → soundL cd = true → (Ending.returned (.bool true) = .returned (.bool (soundL cd)) ∧ Bel w.heap.size w w') := fun w' hb ht => ⟨by rw [ht], hb⟩
  have hP : ∀ w', Bel w.heap.size w w' → soundL cd = false → (Ending.returned (.bool false) = .returned (.bool (soundL cd)) ∧ Bel w.heap.size w w') := fun w' hb ht => ⟨by rw [ht], hb⟩
  generalize hPp : (fun e w' => e = Ending.returned (.bool (soundL cd)) ∧ Bel w.heap.size w w') = PP
  replace hT : ∀ w', Bel w.heap.size w w' → soundL cd = true → PP (.returned (.bool true)) w' := fun w' hb h1 => by rw [← hPp]; exact hT w' hb h1
  replace hP : ∀ w', Bel w.heap.size w w' → soundL cd = false → PP (.returned (.bool false)) w' := fun w' hb h1 => by rw [← hPp]; exact hP w' hb h1
  have HT := Lib.hid hT; have HP := Lib.hid hP; clear hT hP hPp
  have HS0 := Lib.hid (RS.start (cv := #[.slice A1 cd.ps.length c1, .slice A2 cd.gs.length c2, .slice A3 cd.ss.length c3, .slice A4 cd.is.length c4]) (r := false) h)
  obtain ⟨R1, hR1⟩ : ∃ R, (cd.gs.all (segOK cd) && cd.ss.all kindOK && pathsFrom cd 0 cd.ps) = R := ⟨_, rfl⟩
  have HR1 := Lib.hid hR1
  have hsd : soundL cd = (decide (0 < cd.ps.length) && ((cd.ps.drop 0).all (pathOK cd) && R1)) := by rw [← hR1]; unfold soundL; simp [Bool.and_assoc]
  clear h hR1
  by_cases hp0 : 0 < cd.ps.length
  rotate_left
  · have HF := Lib.hid (show soundL cd = false by rw [hsd, decide_eq_false hp0]; rfl)
    have hpi : ¬ (0 : Int) < cd.ps.length := by omega
    clear hsd
    go_enter_defers Try.func7, Try.ntmps7
    go_wp2_with (go_at_call 12; refine (need_any _ _).mono ?_; rintro e w2 ⟨he, rfl⟩; obtain rfl := (show _ = _ by first | exact np_t he | exact np_f he))
    have hxq : Blk _ (w.heap.size + 1) _ _ := HS0.out.2.1
    have hx9 := hxq.cell 0
    simp only [List.getElem?_toArray, List.getElem?_cons_zero] at hx9
    have hx8 := hxq.lt
    have HW9 := Lib.hid HS0.out.2.2.2
    clear hxq
    refine leaves_cons (f := 11) (args := #[.pointer (some ⟨w.heap.size + 1, 0, none⟩)]) (by simp) (by simp [go_sem]) ?_
    refine (caught_fault ⟨w.heap.size + 1, 0, none⟩ _).mono ?_
    rintro e u' w'' ⟨rfl, rfl, rfl⟩
    simp [Leaves, settle, results, Try.results7, go_sem, hx9]
    exact HP.out _ (HW9.out.alloc HW9.out.size _) HF.out
  · have HQ0 := Lib.hid (show soundL cd = ((cd.ps.drop 0).all (pathOK cd) && R1) by rw [hsd, decide_eq_true hp0]; rfl)
    have hpi : (0 : Int) < cd.ps.length := by omega
    clear hsd
    go_enter_defers Try.func7, Try.ntmps7
    let qd := bodyPost Try.prog Try.f7 PP
    go_wp2_with (go_at_call 12; refine (need_any _ _).mono ?_; rintro e w2 ⟨he, rfl⟩; obtain rfl := (show _ = _ by first | exact np_t he | exact np_f he))
    go_loopw [22] (fun i wr => ∃ k : Nat, k ≤ cd.ps.length ∧ i = .int .i64 k ∧ Hid (soundL cd = ((cd.ps.drop k).all (pathOK cd) && R1)) ∧ Hid (∀ j x, j < k → cd.ps[j]? = some x → pathOK cd x = true) ∧ Hid (RS w wr #[.slice A1 cd.ps.length c1, .slice A2 cd.gs.length c2, .slice A3 cd.ss.length c3, .slice A4 cd.is.length c4] false A1 A2 A3 A4 cd)) (fun i _ => cd.ps.length - (intOf i).toNat)
    case atStart => exact ⟨0, by omega, rfl, HQ0, Lib.hid (fun j x h => by omega), HS0⟩
    case round =>
      clear HS0 HQ0
      obtain ⟨k, hk, rfl, HQ, HA, HS⟩ := hrel
      obtain ⟨hk1, hk2, hcm, hbe⟩ := HS.out; obtain ⟨xsz, ⟨x0, x1, x2, x3⟩, y0, y1, y2, y3⟩ := hk1.four; have hxsz := hk2.lt; have hx0 := hk2.cell 0; have hy0 := hk2.frozen 0; simp only [List.getElem?_toArray, List.getElem?_cons_zero] at hx0; have HC := Lib.hid hcm; have HW := Lib.hid hbe; clear hk1 hk2 hcm hbe
      by_cases hlt : k < cd.ps.length
      · obtain ⟨x, hx⟩ : ∃ x, cd.ps[k]? = some x := ⟨_, List.getElem?_eq_getElem hlt⟩
        have HST := Lib.hid (HQ.out.trans (by rw [all_step cd.ps (pathOK cd) k x hx] : _ = ((pathOK cd x && (cd.ps.drop (k + 1)).all (pathOK cd)) && R1)))
        have hpa := fun w h => hpa0 (k : Int) w h
        unfold PathP at hpa
        rw [there_at cd k x hx] at hpa
        have hgp : getP cd (k : Int) = some x := by unfold getP; rw [if_neg (by omega), Int.toNat_natCast, hx]
        have HX := Lib.hid hx
        have hkl : (k : Int) < cd.ps.length := by omega
        rw [hgp] at hpa
        clear hx hgp
        cases hpo : pathOK cd x with
        | false =>
          rw [hpo] at hpa HST
          simp only at hpa
          have HF := Lib.hid (show soundL cd = false from HST.out)
          clear hpo
          go_wp2_with (go_at_call 13; refine (hpa _ HC.out).mono ?_; rintro e w4 ⟨hb, rfl⟩; have HR2 := Lib.hid (HS.out.bel hb); clear hb)
          have hxq : Blk _ (w.heap.size + 1) _ _ := HR2.out.2.1
          have hx9 := hxq.cell 0
          simp only [List.getElem?_toArray, List.getElem?_cons_zero] at hx9
          have hx8 := hxq.lt
          have HW9 := Lib.hid HR2.out.2.2.2
          clear hxq
          refine leaves_cons (f := 11) (args := #[.pointer (some ⟨w.heap.size + 1, 0, none⟩)]) (by simp) (by simp [go_sem]) ?_
          refine (caught_fault ⟨w.heap.size + 1, 0, none⟩ _).mono ?_
          rintro e u' w'' ⟨rfl, rfl, rfl⟩
          simp [Leaves, settle, results, Try.results7, go_sem, hx9, hx8]
          exact HP.out _ (HW9.out.alloc HW9.out.size _) HF.out
        | true =>
          rw [hpo] at hpa HST
          simp only [Bool.true_and] at hpa HST
          have HA2 := Lib.hid (show ∀ j y, j < k + 1 → cd.ps[j]? = some y → pathOK cd y = true from fun j y hj hy => by
            by_cases e : j = k
            · subst e; rw [HX.out] at hy; injection hy with hy; subst hy; exact hpo
            · exact HA.out j y (by omega) hy)
          clear hpo
          go_wp2_with (go_at_call 13; refine (hpa _ HC.out).mono ?_; rintro e w4 ⟨hb, rfl⟩; have HR2 := Lib.hid (HS.out.bel hb); clear hb)
          go_roundw
          case rel => exact ⟨k + 1, by omega, by go_num, HST, HA2, HR2⟩
          case measure => simp [intOf]; omega
      · obtain rfl : k = cd.ps.length := by omega
        have hkl : ¬ (cd.ps.length : Int) < cd.ps.length := by omega
        have HQ1 := Lib.hid (show soundL cd = ((cd.gs.drop 0).all (segOK cd) && (cd.ss.all kindOK && pathsFrom cd 0 cd.ps)) by rw [HQ.out, all_end _ _ _ (Nat.le_refl _), ← HR1.out]; simp [Bool.and_assoc])
        have HA1 := Lib.hid (show ∀ j x, cd.ps[j]? = some x → pathOK cd x = true from fun j x hx => HA.out j x (List.getElem?_eq_some_iff.1 hx).1 hx)
        have HS1 := Lib.hid HS.out
        clear HQ HA HR1 hlt hk hpa0
        go_wp2
        clear xsz x0 x1 x2 x3 y0 y1 y2 y3 hxsz hx0 hy0 HC HW HS
        go_loopw [32] (fun i wr => ∃ k : Nat, k ≤ cd.gs.length ∧ i = .int .i64 k ∧ Hid (soundL cd = ((cd.gs.drop k).all (segOK cd) && (cd.ss.all kindOK && pathsFrom cd 0 cd.ps))) ∧ Hid (∀ j x, j < k → cd.gs[j]? = some x → segOK cd x = true) ∧ Hid (RS w wr #[.slice A1 cd.ps.length c1, .slice A2 cd.gs.length c2, .slice A3 cd.ss.length c3, .slice A4 cd.is.length c4] false A1 A2 A3 A4 cd)) (fun i _ => cd.gs.length - (intOf i).toNat)
        case atStart => exact ⟨0, by omega, rfl, HQ1, Lib.hid (fun j x h => by omega), HS1⟩
        case round =>
          clear HS1 HQ1
          obtain ⟨k, hk, rfl, HQ, HA, HS⟩ := hrel
          obtain ⟨hk1, hk2, hcm, hbe⟩ := HS.out; obtain ⟨xsz, ⟨x0, x1, x2, x3⟩, y0, y1, y2, y3⟩ := hk1.four; have hxsz := hk2.lt; have hx0 := hk2.cell 0; have hy0 := hk2.frozen 0; simp only [List.getElem?_toArray, List.getElem?_cons_zero] at hx0; have HC := Lib.hid hcm; have HW := Lib.hid hbe; clear hk1 hk2 hcm hbe
          by_cases hlt : k < cd.gs.length
          · obtain ⟨x, hx⟩ : ∃ x, cd.gs[k]? = some x := ⟨_, List.getElem?_eq_getElem hlt⟩
            have HST := Lib.hid (HQ.out.trans (by rw [all_step cd.gs (segOK cd) k x hx] : _ = ((segOK cd x && (cd.gs.drop (k + 1)).all (segOK cd)) && (cd.ss.all kindOK && pathsFrom cd 0 cd.ps))))
            obtain ⟨b2, o2, e2, hb2, hc2⟩ := HC.out.g.resolve_left (by intro e; rw [e] at hlt; simp at hlt)
            subst e2
            obtain ⟨g0, g1, g2⟩ := hc2 k x hx
            have hw2 := fun w => within_any x.fr x.tt cd.ss.length w
            unfold NP' at hw2
            have HX := Lib.hid hx
            have hkl : (k : Int) < cd.gs.length := by omega
            have HSO := Lib.hid (show segOK cd x = (inR x.fr x.tt cd.ss.length && decide (x.fr < x.tt)) from rfl)
            clear hc2 hx
            obtain ⟨yd, yf, yt⟩ := x
            simp only at g0 g1 g2 hw2 HSO
            have HS2 := Lib.hid (show RS w (wr.alloc (.cells #[.bool yd, .int .i64 yf, .int .i64 yt] 42)) #[.slice A1 cd.ps.length c1, .slice (some ⟨b2, o2, none⟩) cd.gs.length c2, .slice A3 cd.ss.length c3, .slice A4 cd.is.length c4] false A1 (some ⟨b2, o2, none⟩) A3 A4 cd from HS.out.alloc _)
            cases hi : inR yf yt cd.ss.length with
            | false =>
              rw [hi] at hw2 HSO
              simp only [Bool.false_eq_true, if_false] at hw2
              have HF := Lib.hid (show soundL cd = false by rw [HST.out, HSO.out]; rfl)
              clear hi
              go_wp2_with (go_at_call 14; refine (hw2 _).mono ?_; rintro e w' ⟨rfl, rfl⟩)
              have hxq : Blk _ (w.heap.size + 1) _ _ := HS2.out.2.1
              have hx9 := hxq.cell 0
              simp only [List.getElem?_toArray, List.getElem?_cons_zero] at hx9
              have hx8 := hxq.lt
              have HW9 := Lib.hid HS2.out.2.2.2
              clear hxq
              generalize (wr.alloc (.cells #[.bool yd, .int .i64 yf, .int .i64 yt] 42)) = WW at hx9 hx8 HW9 ⊢
              refine leaves_cons (f := 11) (args := #[.pointer (some ⟨w.heap.size + 1, 0, none⟩)]) (by simp) (by simp [go_sem]) ?_
              refine (caught_fault ⟨w.heap.size + 1, 0, none⟩ _).mono ?_
              rintro e u' w'' ⟨rfl, rfl, rfl⟩
              simp [Leaves, settle, results, Try.results7, go_sem, hx9, hx8]
              exact HP.out _ (HW9.out.alloc HW9.out.size _) HF.out
            | true =>
              rw [hi] at hw2 HSO
              simp only [if_true] at hw2
              by_cases hft : yf < yt
              · have hd : decide (yf < yt) = true := decide_eq_true hft
                rw [hd] at HSO
                have HN := Lib.hid (HST.out.trans (by rw [HSO.out]; rfl : _ = ((cd.gs.drop (k + 1)).all (segOK cd) && (cd.ss.all kindOK && pathsFrom cd 0 cd.ps))))
                have HA2 := Lib.hid (show ∀ j y, j < k + 1 → cd.gs[j]? = some y → segOK cd y = true from fun j y hj hy => by
                  by_cases e : j = k
                  · subst e; rw [HX.out] at hy; injection hy with hy; subst hy; rw [HSO.out]; rfl
                  · exact HA.out j y (by omega) hy)
                clear hi
                go_wp2_with (first
                  | (go_at_call 12; refine (need_any _ _).mono ?_; rintro e w2 ⟨he, rfl⟩; obtain rfl := (show _ = _ by first | exact np_t he | exact np_f he))
                  | (go_at_call 14; refine (hw2 _).mono ?_; rintro e w' ⟨rfl, rfl⟩))
                go_roundw
                case rel => exact ⟨k + 1, by omega, by go_num, HN, HA2, HS2⟩
                case measure => simp [intOf]; omega
              · have hd : decide (yf < yt) = false := decide_eq_false hft
                rw [hd] at HSO
                have HF := Lib.hid (show soundL cd = false by rw [HST.out, HSO.out]; rfl)
                clear hi
                go_wp2_with (first
                  | (go_at_call 12; refine (need_any _ _).mono ?_; rintro e w2 ⟨he, rfl⟩; obtain rfl := (show _ = _ by first | exact np_t he | exact np_f he))
                  | (go_at_call 14; refine (hw2 _).mono ?_; rintro e w' ⟨rfl, rfl⟩))
                have hxq : Blk _ (w.heap.size + 1) _ _ := HS2.out.2.1
                have hx9 := hxq.cell 0
                simp only [List.getElem?_toArray, List.getElem?_cons_zero] at hx9
                have hx8 := hxq.lt
                have HW9 := Lib.hid HS2.out.2.2.2
                clear hxq
                generalize (wr.alloc (.cells #[.bool yd, .int .i64 yf, .int .i64 yt] 42)) = WW at hx9 hx8 HW9 ⊢
                refine leaves_cons (f := 11) (args := #[.pointer (some ⟨w.heap.size + 1, 0, none⟩)]) (by simp) (by simp [go_sem]) ?_
                refine (caught_fault ⟨w.heap.size + 1, 0, none⟩ _).mono ?_
                rintro e u' w'' ⟨rfl, rfl, rfl⟩
                simp [Leaves, settle, results, Try.results7, go_sem, hx9, hx8]
                exact HP.out _ (HW9.out.alloc HW9.out.size _) HF.out
          · obtain rfl : k = cd.gs.length := by omega
            have hkl : ¬ (cd.gs.length : Int) < cd.gs.length := by omega
            have HQ1 := Lib.hid (show soundL cd = ((cd.ss.drop 0).all kindOK && pathsFrom cd 0 cd.ps) by rw [HQ.out, all_end _ _ _ (Nat.le_refl _)]; simp)
            have HG1 := Lib.hid (show ∀ j x, cd.gs[j]? = some x → segOK cd x = true from fun j x hx => HA.out j x (List.getElem?_eq_some_iff.1 hx).1 hx)
            have HS1 := Lib.hid HS.out
            clear HQ HA hlt hk
            go_wp2
            clear xsz x0 x1 x2 x3 y0 y1 y2 y3 hxsz hx0 hy0 HC HW HS
            go_loopw [54] (fun i wr => ∃ k : Nat, k ≤ cd.ss.length ∧ i = .int .i64 k ∧ Hid (soundL cd = ((cd.ss.drop k).all kindOK && pathsFrom cd 0 cd.ps)) ∧ Hid (RS w wr #[.slice A1 cd.ps.length c1, .slice A2 cd.gs.length c2, .slice A3 cd.ss.length c3, .slice A4 cd.is.length c4] false A1 A2 A3 A4 cd)) (fun i _ => cd.ss.length - (intOf i).toNat)
            case atStart => exact ⟨0, by omega, rfl, HQ1, HS1⟩
            case round =>
              clear HS1 HQ1
              obtain ⟨k, hk, rfl, HQ, HS⟩ := hrel
              obtain ⟨hk1, hk2, hcm, hbe⟩ := HS.out; obtain ⟨xsz, ⟨x0, x1, x2, x3⟩, y0, y1, y2, y3⟩ := hk1.four; have hxsz := hk2.lt; have hx0 := hk2.cell 0; have hy0 := hk2.frozen 0; simp only [List.getElem?_toArray, List.getElem?_cons_zero] at hx0; have HC := Lib.hid hcm; have HW := Lib.hid hbe; clear hk1 hk2 hcm hbe
              by_cases hlt : k < cd.ss.length
              · obtain ⟨x, hx⟩ : ∃ x, cd.ss[k]? = some x := ⟨_, List.getElem?_eq_getElem hlt⟩
                have HST := Lib.hid (HQ.out.trans (by rw [all_step cd.ss kindOK k x hx] : _ = ((kindOK x && (cd.ss.drop (k + 1)).all kindOK) && pathsFrom cd 0 cd.ps)))
                obtain ⟨b3, o3, e3, hb3, hc3⟩ := HC.out.s.resolve_left (by intro e; rw [e] at hlt; simp at hlt)
                subst e3
                obtain ⟨g0, g1, g2, g3, g4, g5, g6, g7⟩ := hc3 k x hx
                have hkl : (k : Int) < cd.ss.length := by omega
                clear hc3 hx
                have HKO := Lib.hid (show kindOK x = (decide (0 ≤ x.kind) && decide (x.kind ≤ 4)) from rfl)
                obtain ⟨kd, snm, sa, sb, sc, sha, shb, sat⟩ := x
                simp only at g0 g1 g2 g3 g4 g5 g6 g7 HKO
                have HS2 := Lib.hid (show RS w (wr.alloc (.cells #[.int .i64 kd, .string snm, .int .i64 sa, .int .i64 sb, .int .i64 sc, .bool sha, .bool shb, .int .i64 sat] 44)) #[.slice A1 cd.ps.length c1, .slice A2 cd.gs.length c2, .slice (some ⟨b3, o3, none⟩) cd.ss.length c3, .slice A4 cd.is.length c4] false A1 A2 (some ⟨b3, o3, none⟩) A4 cd from HS.out.alloc _)
                by_cases hk0 : 0 ≤ kd
                · by_cases hk4 : kd ≤ 4
                  · have hd0 : decide (0 ≤ kd) = true := decide_eq_true hk0
                    have hd4 : decide (kd ≤ 4) = true := decide_eq_true hk4
                    rw [hd0, hd4] at HKO
                    have HN := Lib.hid (HST.out.trans (by rw [HKO.out]; rfl : _ = ((cd.ss.drop (k + 1)).all kindOK && pathsFrom cd 0 cd.ps)))
                    go_wp2_with (go_at_call 12; refine (need_any _ _).mono ?_; rintro e w2 ⟨he, rfl⟩; obtain rfl := (show _ = _ by first | exact np_t he | exact np_f he))
                    go_roundw
                    case rel => exact ⟨k + 1, by omega, by go_num, HN, HS2⟩
                    case measure => simp [intOf]; omega
                  · have hd4 : decide (kd ≤ 4) = false := decide_eq_false hk4
                    have HF := Lib.hid (show soundL cd = false by rw [HST.out, HKO.out, hd4]; simp)
                    go_wp2_with (go_at_call 12; refine (need_any _ _).mono ?_; rintro e w2 ⟨he, rfl⟩; obtain rfl := (show _ = _ by first | exact np_t he | exact np_f he))
                    have hxq : Blk _ (w.heap.size + 1) _ _ := HS2.out.2.1
                    have hx9 := hxq.cell 0
                    simp only [List.getElem?_toArray, List.getElem?_cons_zero] at hx9
                    have hx8 := hxq.lt
                    have HW9 := Lib.hid HS2.out.2.2.2
                    clear hxq
                    generalize (wr.alloc (.cells #[.int .i64 kd, .string snm, .int .i64 sa, .int .i64 sb, .int .i64 sc, .bool sha, .bool shb, .int .i64 sat] 44)) = WW at hx9 hx8 HW9 ⊢
                    refine leaves_cons (f := 11) (args := #[.pointer (some ⟨w.heap.size + 1, 0, none⟩)]) (by simp) (by simp [go_sem]) ?_
                    refine (caught_fault ⟨w.heap.size + 1, 0, none⟩ _).mono ?_
                    rintro e u' w'' ⟨rfl, rfl, rfl⟩
                    simp [Leaves, settle, results, Try.results7, go_sem, hx9, hx8]
                    exact HP.out _ (HW9.out.alloc HW9.out.size _) HF.out
                · have hd0 : decide (0 ≤ kd) = false := decide_eq_false hk0
                  have HF := Lib.hid (show soundL cd = false by rw [HST.out, HKO.out, hd0]; simp)
                  go_wp2_with (go_at_call 12; refine (need_any _ _).mono ?_; rintro e w2 ⟨he, rfl⟩; obtain rfl := (show _ = _ by first | exact np_t he | exact np_f he))
                  have hxq : Blk _ (w.heap.size + 1) _ _ := HS2.out.2.1
                  have hx9 := hxq.cell 0
                  simp only [List.getElem?_toArray, List.getElem?_cons_zero] at hx9
                  have hx8 := hxq.lt
                  have HW9 := Lib.hid HS2.out.2.2.2
                  clear hxq
                  generalize (wr.alloc (.cells #[.int .i64 kd, .string snm, .int .i64 sa, .int .i64 sb, .int .i64 sc, .bool sha, .bool shb, .int .i64 sat] 44)) = WW at hx9 hx8 HW9 ⊢
                  refine leaves_cons (f := 11) (args := #[.pointer (some ⟨w.heap.size + 1, 0, none⟩)]) (by simp) (by simp [go_sem]) ?_
                  refine (caught_fault ⟨w.heap.size + 1, 0, none⟩ _).mono ?_
                  rintro e u' w'' ⟨rfl, rfl, rfl⟩
                  simp [Leaves, settle, results, Try.results7, go_sem, hx9, hx8]
                  exact HP.out _ (HW9.out.alloc HW9.out.size _) HF.out
              · obtain rfl : k = cd.ss.length := by omega
                have hkl : ¬ (cd.ss.length : Int) < cd.ss.length := by omega
                have HQ1 := Lib.hid (show soundL cd = pathsFrom cd 0 (cd.ps.drop 0) by rw [HQ.out, all_end _ _ _ (Nat.le_refl _)]; simp)
                have HS1 := Lib.hid HS.out
                clear HQ hlt hk
                go_wp2
                clear xsz x0 x1 x2 x3 y0 y1 y2 y3 hxsz hx0 hy0 HC HW HS
                go_loopw [71] (fun i wr => ∃ k : Nat, k ≤ cd.ps.length ∧ i = .int .i64 k ∧ Hid (soundL cd = pathsFrom cd k (cd.ps.drop k)) ∧ Hid (RS w wr #[.slice A1 cd.ps.length c1, .slice A2 cd.gs.length c2, .slice A3 cd.ss.length c3, .slice A4 cd.is.length c4] false A1 A2 A3 A4 cd)) (fun i _ => cd.ps.length - (intOf i).toNat)
                case atStart => exact ⟨0, by omega, rfl, HQ1, HS1⟩
                case round =>
                  clear HS1 HQ1
                  obtain ⟨k, hk, rfl, HQ, HS⟩ := hrel
                  obtain ⟨hk1, hk2, hcm, hbe⟩ := HS.out; obtain ⟨xsz, ⟨x0, x1, x2, x3⟩, y0, y1, y2, y3⟩ := hk1.four; have hxsz := hk2.lt; have hx0 := hk2.cell 0; have hy0 := hk2.frozen 0; simp only [List.getElem?_toArray, List.getElem?_cons_zero] at hx0; have HC := Lib.hid hcm; have HW := Lib.hid hbe; clear hk1 hk2 hcm hbe
                  by_cases hlt : k < cd.ps.length
                  · obtain ⟨x, hx⟩ : ∃ x, cd.ps[k]? = some x := ⟨_, List.getElem?_eq_getElem hlt⟩
                    have HST := Lib.hid (HQ.out.trans (paths_step cd k x hx))
                    obtain ⟨b1, o1, e1, hb1, hc1⟩ := HC.out.p.resolve_left (by intro e; rw [e] at hlt; simp at hlt)
                    subst e1
                    obtain ⟨g0, g1, g2⟩ := hc1 k x hx
                    have hpo := HA1.out k x hx
                    have hkl : (k : Int) < cd.ps.length := by omega
                    clear hc1 hx
                    obtain ⟨pa, fr, tt⟩ := x
                    have hin2 : 0 ≤ fr ∧ fr ≤ tt ∧ tt ≤ (cd.gs.length : Int) := by unfold pathOK at hpo; rw [Bool.and_eq_true] at hpo; have := hpo.1; unfold inR at this; simpa [and_assoc] using this
                    obtain ⟨a, rfl⟩ : ∃ a : Nat, fr = a := ⟨fr.toNat, by omega⟩
                    obtain ⟨b, rfl⟩ : ∃ b : Nat, tt = b := ⟨tt.toNat, by omega⟩
                    have hab : a ≤ b := by omega
                    have hbl : b ≤ cd.gs.length := by omega
                    simp only at g0 g1 g2
                    have HQ5 := Lib.hid (show soundL cd = (((cd.gs.drop (a + 0)).take (b - (a + 0))).all (FS cd k) && pathsFrom cd (k + 1) (cd.ps.drop (k + 1))) from HST.out)
                    have HS5 := Lib.hid (show RS w (wr.alloc (.cells #[.bool pa, .int .i64 (a : Int), .int .i64 (b : Int)] 40)) #[.slice (some ⟨b1, o1, none⟩) cd.ps.length c1, .slice A2 cd.gs.length c2, .slice A3 cd.ss.length c3, .slice A4 cd.is.length c4] false (some ⟨b1, o1, none⟩) A2 A3 A4 cd from HS.out.alloc _)
                    have HG := Lib.hid HC.out.g
                    clear hpo hin2 HST
                    go_upto_region 22 with fail
                    go_cut [82, 83, 84] (fun u v i wx => ∃ (X : Option Addr) (cap : Nat), u = .slice X (b - a) cap ∧ v = .int .i64 ((b : Int) - a) ∧ i = .int .i64 0 ∧ Hid (a < b → ∃ b2 o2, A2 = some ⟨b2, o2, none⟩ ∧ X = some ⟨b2, o2 + a * 3, none⟩) ∧ Hid (RS w wx #[.slice (some ⟨b1, o1, none⟩) cd.ps.length c1, .slice A2 cd.gs.length c2, .slice A3 cd.ss.length c3, .slice A4 cd.is.length c4] false (some ⟨b1, o1, none⟩) A2 A3 A4 cd))
                    case first =>
                      rcases HG.out with hgs | ⟨b2, o2, e2, _, _⟩
                      · obtain rfl : b = 0 := by rw [hgs] at hbl; simp at hbl; exact hbl
                        obtain rfl : a = 0 := by omega
                        clear HG hgs
                        rcases A2 with _ | ⟨b2, o2, p2⟩
                        · go_wp2
                          all_goals
                            go_meet
                            case rel => exact ⟨_, _, rfl, rfl, rfl, Lib.hid (fun h => by exfalso; omega), HS5⟩
                        · go_wp2
                          all_goals
                            go_meet
                            case rel => exact ⟨_, _, rfl, rfl, rfl, Lib.hid (fun h => by exfalso; omega), HS5⟩
                      · subst e2
                        clear HG
                        have e3 : ((b - a : Nat) : Int) = (b : Int) - a := by omega
                        by_cases hca : c2 = a
                        · subst hca
                          go_wp2
                          all_goals
                            go_meet
                            case rel => exact ⟨_, _, rfl, rfl, rfl, Lib.hid (fun h => by first | exact ⟨_, _, rfl, rfl⟩ | (exfalso; omega)), HS5⟩
                        · go_wp2
                          all_goals
                            go_meet
                            case rel => exact ⟨_, _, rfl, rfl, rfl, Lib.hid (fun h => by first | exact ⟨_, _, rfl, rfl⟩ | (exfalso; omega)), HS5⟩
                    case rest =>
                      obtain ⟨X, cap, rfl, rfl, rfl, HX, HS6⟩ := hcut
                      clear HG HS5 HS HC HW xsz x0 x1 x2 x3 y0 y1 y2 y3 hxsz hx0 hy0 g0 g1 g2 HQ
                      go_wp2
                      go_loopw [84] (fun i wr => ∃ j : Nat, j ≤ b - a ∧ i = .int .i64 j ∧ Hid (soundL cd = (((cd.gs.drop (a + j)).take (b - (a + j))).all (FS cd k) && pathsFrom cd (k + 1) (cd.ps.drop (k + 1)))) ∧ Hid (RS w wr #[.slice (some ⟨b1, o1, none⟩) cd.ps.length c1, .slice A2 cd.gs.length c2, .slice A3 cd.ss.length c3, .slice A4 cd.is.length c4] false (some ⟨b1, o1, none⟩) A2 A3 A4 cd)) (fun i _ => b - a - (intOf i).toNat)
                      case atStart => exact ⟨0, by omega, rfl, HQ5, HS6⟩
                      case round =>
                        clear HS6 HQ5
                        obtain ⟨j, hj, rfl, HQ, HS⟩ := hrel
                        obtain ⟨hk1, hk2, hcm, hbe⟩ := HS.out; obtain ⟨xsz, ⟨x0, x1, x2, x3⟩, y0, y1, y2, y3⟩ := hk1.four; have hxsz := hk2.lt; have hx0 := hk2.cell 0; have hy0 := hk2.frozen 0; simp only [List.getElem?_toArray, List.getElem?_cons_zero] at hx0; have HC := Lib.hid hcm; have HW := Lib.hid hbe; clear hk1 hk2 hcm hbe
                        by_cases hltj : j < b - a
                        · obtain ⟨y, hy⟩ : ∃ y, cd.gs[a + j]? = some y := ⟨_, List.getElem?_eq_getElem (by omega)⟩
                          have HST := Lib.hid (HQ.out.trans (by rw [sub_step cd.gs (FS cd k) a b j y (by omega) hy] : _ = ((FS cd k y && ((cd.gs.drop (a + (j + 1))).take (b - (a + (j + 1)))).all (FS cd k)) && pathsFrom cd (k + 1) (cd.ps.drop (k + 1)))))
                          have hso := HG1.out (a + j) y hy
                          obtain ⟨b2, o2, e2, ex⟩ := HX.out (by omega)
                          subst ex; subst e2
                          obtain ⟨bq, oq, eq, hbq, hcq⟩ := HC.out.g.resolve_left (by intro e; rw [e] at hbl; simp at hbl; omega)
                          injection eq with eq; injection eq with eqb eqo; subst eqb; subst eqo
                          obtain ⟨g0, g1, g2⟩ := hcq (a + j) y hy
                          have eo : o2 + (a + j) * 3 = o2 + a * 3 + j * 3 := by omega
                          rw [eo] at g0 g1 g2
                          clear hcq hy eo
                          obtain ⟨yd, yf, yt⟩ := y
                          unfold segOK inR at hso
                          simp only [Bool.and_eq_true, decide_eq_true_eq] at g0 g1 g2 hso
                          obtain ⟨⟨⟨hs1, hs2⟩, hs3⟩, hs4⟩ := hso
                          obtain ⟨f, rfl⟩ : ∃ f : Nat, yf = f := ⟨yf.toNat, by omega⟩
                          obtain ⟨t, rfl⟩ : ∃ t : Nat, yt = t := ⟨yt.toNat, by omega⟩
                          have hft : f < t := by omega
                          have htl : t ≤ cd.ss.length := by omega
                          obtain ⟨b3, o3, e3, hb3, _⟩ := HC.out.s.resolve_left (by intro e; rw [e] at htl; simp at htl; omega)
                          subst e3
                          have HQ7 := Lib.hid (show soundL cd = (((cd.ss.drop (f + 0)).take (t - (f + 0))).all (FY cd k) && (((cd.gs.drop (a + (j + 1))).take (b - (a + (j + 1)))).all (FS cd k) && pathsFrom cd (k + 1) (cd.ps.drop (k + 1)))) by rw [HST.out, Bool.and_assoc]; rfl)
                          have HS7 := Lib.hid (show RS w (wr.alloc (.cells #[.bool yd, .int .i64 (f : Int), .int .i64 (t : Int)] 42)) #[.slice (some ⟨b1, o1, none⟩) cd.ps.length c1, .slice (some ⟨b2, o2, none⟩) cd.gs.length c2, .slice (some ⟨b3, o3, none⟩) cd.ss.length c3, .slice A4 cd.is.length c4] false (some ⟨b1, o1, none⟩) (some ⟨b2, o2, none⟩) (some ⟨b3, o3, none⟩) A4 cd from HS.out.alloc _)
                          have hjl : (j : Int) < (b : Int) - a := by omega
                          have e4 : ((t - f : Nat) : Int) = (t : Int) - f := by omega
                          have hfc : c3 ≠ f := by omega
                          clear HST hs1 hs2 hs3 hs4
                          go_upto_region 25 with fail
                          go_cut [94, 95, 96] (fun u v i wx => ∃ (cap : Nat), u = .slice (some ⟨b3, o3 + f * 8, none⟩) (t - f) cap ∧ v = .int .i64 ((t : Int) - f) ∧ i = .int .i64 0 ∧ Hid (RS w wx #[.slice (some ⟨b1, o1, none⟩) cd.ps.length c1, .slice (some ⟨b2, o2, none⟩) cd.gs.length c2, .slice (some ⟨b3, o3, none⟩) cd.ss.length c3, .slice A4 cd.is.length c4] false (some ⟨b1, o1, none⟩) (some ⟨b2, o2, none⟩) (some ⟨b3, o3, none⟩) A4 cd))
                          case first =>
                            go_wp2
                            all_goals
                              go_meet
                              case rel => exact ⟨_, rfl, rfl, rfl, HS7⟩
                          case rest =>
                            obtain ⟨cap2, rfl, rfl, rfl, HS8⟩ := hcut
                            clear HS7 HS HC HW xsz x0 x1 x2 x3 y0 y1 y2 y3 hxsz hx0 hy0 g0 g1 g2 HQ e4
                            go_wp2
                            go_loopw [96] (fun i wr => ∃ m : Nat, m ≤ t - f ∧ i = .int .i64 m ∧ Hid (soundL cd = (((cd.ss.drop (f + m)).take (t - (f + m))).all (FY cd k) && (((cd.gs.drop (a + (j + 1))).take (b - (a + (j + 1)))).all (FS cd k) && pathsFrom cd (k + 1) (cd.ps.drop (k + 1))))) ∧ Hid (RS w wr #[.slice (some ⟨b1, o1, none⟩) cd.ps.length c1, .slice (some ⟨b2, o2, none⟩) cd.gs.length c2, .slice (some ⟨b3, o3, none⟩) cd.ss.length c3, .slice A4 cd.is.length c4] false (some ⟨b1, o1, none⟩) (some ⟨b2, o2, none⟩) (some ⟨b3, o3, none⟩) A4 cd)) (fun i _ => t - f - (intOf i).toNat)
                            case atStart => exact ⟨0, by omega, rfl, HQ7, HS8⟩
                            case round =>
                              clear HS8 HQ7
                              obtain ⟨m, hm, rfl, HQ, HS⟩ := hrel
                              obtain ⟨hk1, hk2, hcm, hbe⟩ := HS.out; obtain ⟨xsz, ⟨x0, x1, x2, x3⟩, y0, y1, y2, y3⟩ := hk1.four; have hxsz := hk2.lt; have hx0 := hk2.cell 0; have hy0 := hk2.frozen 0; simp only [List.getElem?_toArray, List.getElem?_cons_zero] at hx0; have HC := Lib.hid hcm; have HW := Lib.hid hbe; clear hk1 hk2 hcm hbe
                              by_cases hltm : m < t - f
                              · obtain ⟨z, hz⟩ : ∃ z, cd.ss[f + m]? = some z := ⟨_, List.getElem?_eq_getElem (by omega)⟩
                                have HST := Lib.hid (HQ.out.trans (by rw [sub_step cd.ss (FY cd k) f t m z (by omega) hz] : _ = ((FY cd k z && ((cd.ss.drop (f + (m + 1))).take (t - (f + (m + 1)))).all (FY cd k)) && (((cd.gs.drop (a + (j + 1))).take (b - (a + (j + 1)))).all (FS cd k) && pathsFrom cd (k + 1) (cd.ps.drop (k + 1))))))
                                obtain ⟨bp, op, ep, hbp, hcp⟩ := HC.out.s.resolve_left (by intro e; rw [e] at htl; simp at htl; omega)
                                injection ep with ep; injection ep with epb epo; subst epb; subst epo
                                obtain ⟨g0, g1, g2, g3, g4, g5, g6, g7⟩ := hcp (f + m) z hz
                                have eo : o3 + (f + m) * 8 = o3 + f * 8 + m * 8 := by omega
                                rw [eo] at g0 g1 g2 g3 g4 g5 g6 g7
                                have HFY := Lib.hid (show FY cd k z = (z.kind != 4 || filterOK cd k z.at_) from rfl)
                                clear hcp hz eo
                                obtain ⟨kd, snm, sa, sb, sc, sha, shb, sat⟩ := z
                                simp only at g0 g1 g2 g3 g4 g5 g6 g7 HFY
                                have HS9 := Lib.hid (show RS w (wr.alloc (.cells #[.int .i64 kd, .string snm, .int .i64 sa, .int .i64 sb, .int .i64 sc, .bool sha, .bool shb, .int .i64 sat] 44)) #[.slice (some ⟨b1, o1, none⟩) cd.ps.length c1, .slice (some ⟨b2, o2, none⟩) cd.gs.length c2, .slice (some ⟨b3, o3, none⟩) cd.ss.length c3, .slice A4 cd.is.length c4] false (some ⟨b1, o1, none⟩) (some ⟨b2, o2, none⟩) (some ⟨b3, o3, none⟩) A4 cd from HS.out.alloc _)
                                have HC9 := Lib.hid HS9.out.2.2.1
                                have hml : (m : Int) < (t : Int) - f := by omega
                                have hin := fun w h => hin0 (k : Int) sat w h
                                clear HC HW
                                by_cases hk4 : kd = 4
                                · subst hk4
                                  cases hfo : filterOK cd (k : Int) sat with
                                  | true =>
                                    unfold NP' at hin
                                    simp only [hfo, if_true] at hin
                                    have HN := Lib.hid (show soundL cd = (((cd.ss.drop (f + (m + 1))).take (t - (f + (m + 1)))).all (FY cd k) && (((cd.gs.drop (a + (j + 1))).take (b - (a + (j + 1)))).all (FS cd k) && pathsFrom cd (k + 1) (cd.ps.drop (k + 1)))) by rw [HST.out, HFY.out, hfo]; simp)
                                    clear hfo
                                    go_wp2_with (go_at_call 15; refine (hin _ HC9.out).mono ?_; rintro e w6 ⟨rfl, hb⟩; have HS10 := Lib.hid (HS9.out.bel hb); clear hb)
                                    go_roundw
                                    case rel => exact ⟨m + 1, by omega, by go_num, HN, HS10⟩
                                    case measure => simp [intOf]; omega
                                  | false =>
                                    unfold NP' at hin
                                    simp only [hfo, Bool.false_eq_true, if_false] at hin
                                    have HF := Lib.hid (show soundL cd = false by rw [HST.out, HFY.out, hfo]; simp)
                                    clear hfo
                                    go_wp2_with (go_at_call 15; refine (hin _ HC9.out).mono ?_; rintro e w6 ⟨rfl, hb⟩; have HS10 := Lib.hid (HS9.out.bel hb); clear hb)
                                    have hxq : Blk _ (w.heap.size + 1) _ _ := HS10.out.2.1
                                    have hx9 := hxq.cell 0
                                    simp only [List.getElem?_toArray, List.getElem?_cons_zero] at hx9
                                    have hx8 := hxq.lt
                                    have HW9 := Lib.hid HS10.out.2.2.2
                                    clear hxq
                                    refine leaves_cons (f := 11) (args := #[.pointer (some ⟨w.heap.size + 1, 0, none⟩)]) (by simp) (by simp [go_sem]) ?_
                                    refine (caught_fault ⟨w.heap.size + 1, 0, none⟩ _).mono ?_
                                    rintro e u' w'' ⟨rfl, rfl, rfl⟩
                                    simp [Leaves, settle, results, Try.results7, go_sem, hx9, hx8]
                                    exact HP.out _ (HW9.out.alloc HW9.out.size _) HF.out
                                · have hk9 : (kd == 4) = false := beq_eq_false_iff_ne.2 hk4
                                  have hk8 : (kd != 4) = true := by unfold bne; rw [hk9]; rfl
                                  have HN := Lib.hid (show soundL cd = (((cd.ss.drop (f + (m + 1))).take (t - (f + (m + 1)))).all (FY cd k) && (((cd.gs.drop (a + (j + 1))).take (b - (a + (j + 1)))).all (FS cd k) && pathsFrom cd (k + 1) (cd.ps.drop (k + 1)))) by rw [HST.out, HFY.out, hk8]; simp)
                                  clear hk8
                                  go_wp2
                                  go_roundw
                                  case rel => exact ⟨m + 1, by omega, by go_num, HN, HS9⟩
                                  case measure => simp [intOf]; omega
                              · have HN := Lib.hid (show soundL cd = (((cd.gs.drop (a + (j + 1))).take (b - (a + (j + 1)))).all (FS cd k) && pathsFrom cd (k + 1) (cd.ps.drop (k + 1))) by rw [HQ.out, sub_end cd.ss _ f t m (by omega), Bool.true_and])
                                have hml : ¬ (m : Int) < (t : Int) - f := by omega
                                have HS9 := Lib.hid HS.out
                                clear HQ
                                go_wp2
                                go_roundw
                                case rel => exact ⟨j + 1, by omega, by go_num, HN, HS9⟩
                                case measure => simp [intOf]; omega
                        · have HN := Lib.hid (show soundL cd = pathsFrom cd (k + 1) (cd.ps.drop (k + 1)) by rw [HQ.out, sub_end cd.gs _ a b j (by omega), Bool.true_and])
                          have hjl : ¬ (j : Int) < (b : Int) - a := by omega
                          have HS9 := Lib.hid HS.out
                          clear HQ
                          go_wp2
                          go_roundw
                          case rel => exact ⟨k + 1, by omega, by go_num, HN, HS9⟩
                          case measure => simp [intOf]; omega
                  · have HN := Lib.hid (show soundL cd = true by rw [HQ.out, paths_end cd k (by omega)])
                    have hkl : ¬ (k : Int) < cd.ps.length := by omega
                    go_wp2
                    refine leaves_cons (f := 11) (args := #[.pointer (some ⟨w.heap.size + 1, 0, none⟩)]) (by simp) (by simp [go_sem]) ?_
                    refine (caught_idle ⟨w.heap.size + 1, 0, none⟩ true _ ?_ ?_).mono ?_
                    · simp [go_sem, hx0]
                    · simp [go_sem, hy0]
                    rintro e u' w'' ⟨rfl, rfl, rfl⟩
                    simp [Leaves, settle, results, Try.results7, go_sem, hx0]
                    exact HT.out _ ((HS.out.2.2.2.setCell (by simp) _).setCell (by simp) _) HN.out

end Go.Proofs.Ytpcbcodmocmilaa

