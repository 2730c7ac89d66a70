/- ref20: there. -/
import Derived.Test.YthlcbjjeklkmfaaVa
namespace Go.Proofs.Ythlcbjjeklkmfaa
open Go.RowKit

theorem Blk.three {w : World} {g : Nat} {t : TypeId} {a b c : Value} (h : Blk w g t #[a, b, c]) : g < w.heap.size ∧ (w.cell? ⟨g, 0, none⟩ = some a ∧ w.cell? ⟨g, 1, none⟩ = some b ∧ w.cell? ⟨g, 2, none⟩ = some c) ∧ w.frozen? ⟨g, 0, none⟩ = false ∧ w.frozen? ⟨g, 1, none⟩ = false ∧ w.frozen? ⟨g, 2, none⟩ = false :=
  ⟨h.lt, ⟨h.cell 0, h.cell 1, h.cell 2⟩, h.frozen 0, h.frozen 1, h.frozen 2⟩
theorem Blk.four {w : World} {g : Nat} {t : TypeId} {a b c d : Value} (h : Blk w g t #[a, b, c, d]) : g < w.heap.size ∧ (w.cell? ⟨g, 0, none⟩ = some a ∧ w.cell? ⟨g, 1, none⟩ = some b ∧ w.cell? ⟨g, 2, none⟩ = some c ∧ w.cell? ⟨g, 3, none⟩ = some d) ∧ w.frozen? ⟨g, 0, none⟩ = false ∧ w.frozen? ⟨g, 1, none⟩ = false ∧ w.frozen? ⟨g, 2, none⟩ = false ∧ w.frozen? ⟨g, 3, none⟩ = false :=
  ⟨h.lt, ⟨h.cell 0, h.cell 1, h.cell 2, h.cell 3⟩, h.frozen 0, h.frozen 1, h.frozen 2, h.frozen 3⟩
theorem Blk.new1 (w : World) (o : Obj) (t : TypeId) (cs : Array Value) : Blk ((w.alloc o).alloc (.cells cs t)) (w.heap.size + 1) t cs := by
  have := Blk.new (w.alloc o) t cs; simpa using this
/-- The code's box, a path's cell. -/
def TS (w wr : World) (cv pv : Array Value) (A1 A2 A3 A4 : Option Addr) (cd : CodeD) : Prop :=
  Blk wr w.heap.size 27 cv ∧ Blk wr (w.heap.size + 1) 33 pv ∧ CM wr A1 A2 A3 A4 cd ∧ Bel w.heap.size w wr
theorem TS.bel {w wr w2 : World} {cv pv : Array Value} {A1 A2 A3 A4 : Option Addr} {cd : CodeD} (h : TS w wr cv pv A1 A2 A3 A4 cd) (hb : Bel wr.heap.size wr w2) : TS w w2 cv pv A1 A2 A3 A4 cd :=
  ⟨h.1.bel hb h.1.lt, h.2.1.bel hb h.2.1.lt, h.2.2.1.bel hb, h.2.2.2.next hb⟩
theorem TS.drew {w wr : World} {cv pv : Array Value} {A1 A2 A3 A4 : Option Addr} {cd : CodeD} (h : TS w wr cv pv A1 A2 A3 A4 cd) : TS w wr.drew cv pv A1 A2 A3 A4 cd :=
  ⟨h.1, h.2.1, ⟨h.2.2.1.p, h.2.2.1.g, h.2.2.1.s, h.2.2.1.i⟩, h.2.2.2.drew⟩
theorem TS.start {w : World} {cv pv : Array Value} {A1 A2 A3 A4 : Option Addr} {cd : CodeD} (h : CM w A1 A2 A3 A4 cd) : TS w ((w.alloc (.cells cv 27)).alloc (.cells pv 33)) cv pv A1 A2 A3 A4 cd :=
  ⟨(Blk.new _ _ _).alloc _, Blk.new1 _ _ _ _, h.bel (((Bel.refl _ _).alloc (Nat.le_refl _) _).alloc (by simp) _), ((Bel.refl _ _).alloc (Nat.le_refl _) _).alloc (by simp) _⟩

set_option maxRecDepth 100000 in
set_option maxHeartbeats 2000000 in
theorem there_any (A1 A2 A3 A4 : Option Addr) (c1 c2 c3 c4 : Nat) (cd : CodeD) (p : Int) (w : World) (h : CM w A1 A2 A3 A4 cd) (_l1 : cd.ps.length ≤ 1000000000) (l2 : cd.gs.length ≤ 1000000000) :
    Calls Try.prog 16 #[.agg #[.slice A1 cd.ps.length c1, .slice A2 cd.gs.length c2, .slice A3 cd.ss.length c3, .slice A4 cd.is.length c4], .int .i64 p] w fun e w' => e = .returned (.bool (thereOK cd p)) ∧ Bel w.heap.size w w' := by
  have HV := Lib.hid (show thereOK cd p = match getP cd p with | some x => pathOK cd x | none => false from rfl)
  by_cases h0 : p < 0
  · have HQ := Lib.hid (show thereOK cd p = false by rw [HV.out, getP, if_pos h0])
    go_enter Try.func16, Try.ntmps16
    go_wp2
    go_ret
    exact ⟨ret_bool HQ.out.symm, Bel.of (by (repeat' (first | (with_reducible exact Below.refl _ _) | (with_reducible refine Below.trans ?_ (below_drewN _ _ _)) | (with_reducible refine Below.alloc ?_ ?_ _) | (with_reducible refine Below.setCell ?_ ?_ _) | (with_reducible refine Below.drew ?_) | go_size)))⟩
  · by_cases h1 : (cd.ps.length : Int) ≤ p
    · have HQ := Lib.hid (show thereOK cd p = false by rw [HV.out, getP, if_neg h0, List.getElem?_eq_none (by omega)])
      go_enter Try.func16, Try.ntmps16
      go_wp2
      go_ret
      exact ⟨ret_bool HQ.out.symm, Bel.of (by (repeat' (first | (with_reducible exact Below.refl _ _) | (with_reducible refine Below.trans ?_ (below_drewN _ _ _)) | (with_reducible refine Below.alloc ?_ ?_ _) | (with_reducible refine Below.setCell ?_ ?_ _) | (with_reducible refine Below.drew ?_) | go_size)))⟩
    · obtain ⟨j, rfl⟩ : ∃ j : Nat, p = j := ⟨p.toNat, by omega⟩
      have hj : j < cd.ps.length := by omega
      obtain ⟨x, hx⟩ : ∃ x, cd.ps[j]? = some x := ⟨_, List.getElem?_eq_getElem hj⟩
      have HQ := Lib.hid (show thereOK cd (j : Int) = pathOK cd x by rw [HV.out, getP, if_neg h0, Int.toNat_natCast, hx])
      obtain ⟨b1, o1, e1, hb1, hc1⟩ := h.p.resolve_left (by intro e; rw [e] at hj; simp at hj)
      subst e1
      obtain ⟨q0, q1, q2⟩ := hc1 j x hx
      have HX := Lib.hid hx; have HH := Lib.hid h
      clear hc1 hx h HV
      obtain ⟨pa, fr, tt⟩ := x
      simp only at q0 q1 q2
      by_cases hin : inR fr tt cd.gs.length = true
      · have hin2 : 0 ≤ fr ∧ fr ≤ tt ∧ tt ≤ (cd.gs.length : Int) := by unfold inR at hin; simpa [and_assoc] using hin
        obtain ⟨a, rfl⟩ : ∃ a : Nat, fr = a := ⟨fr.toNat, by omega⟩
        obtain ⟨b, rfl⟩ : ∃ b : Nat, tt = b := ⟨tt.toNat, by omega⟩
        have hab : a ≤ b := by omega
        have hbl : b ≤ cd.gs.length := by omega
        have HP := Lib.hid (show pathOK cd ⟨pa, a, b⟩ = ((cd.gs.drop a).take (b - a)).all (segOK cd) by unfold pathOK; rw [hin]; rfl)
        have HS := Lib.hid (TS.start (cv := #[.slice (some ⟨b1, o1, none⟩) cd.ps.length c1, .slice A2 cd.gs.length c2, .slice A3 cd.ss.length c3, .slice A4 cd.is.length c4]) (pv := #[.bool pa, .int .i64 (a : Int), .int .i64 (b : Int)]) HH.out)
        clear hin hin2
        go_enter Try.func16, Try.ntmps16
        go_wp2
        go_loopw [6] (fun i wr => ∃ k : Nat, a ≤ k ∧ k ≤ b ∧ i = .int .i64 k ∧ Hid (pathOK cd ⟨pa, a, b⟩ = ((cd.gs.drop k).take (b - k)).all (segOK cd)) ∧ Hid (TS w wr #[.slice (some ⟨b1, o1, none⟩) cd.ps.length c1, .slice A2 cd.gs.length c2, .slice A3 cd.ss.length c3, .slice A4 cd.is.length c4] #[.bool pa, .int .i64 (a : Int), .int .i64 (b : Int)] (some ⟨b1, o1, none⟩) A2 A3 A4 cd)) (fun i _ => b - (intOf i).toNat)
        case atStart => exact ⟨a, by omega, hab, rfl, HP, HS⟩
        case round =>
          clear HS HP
          obtain ⟨k, hak, hkb, rfl, HP, HS⟩ := hrel
          obtain ⟨hx, hu, hcm, hbe⟩ := HS.out; obtain ⟨xsz, ⟨x0, x1, x2, x3⟩, y0, y1, y2, y3⟩ := hx.four; obtain ⟨usz, ⟨u0, u1, u2⟩, v0, v1, v2⟩ := hu.three; have HC := Lib.hid hcm; have HW := Lib.hid hbe; clear hx hu hcm hbe
          by_cases hlt : k < b
          · obtain ⟨y, hy⟩ : ∃ y, cd.gs[k]? = some y := ⟨_, List.getElem?_eq_getElem (by omega)⟩
            have HST := Lib.hid (show ((cd.gs.drop k).take (b - k)).all (segOK cd) = (segOK cd y && ((cd.gs.drop (k + 1)).take (b - (k + 1))).all (segOK cd)) by
              have hk : k < cd.gs.length := by omega
              have hyk : cd.gs[k] = y := by rw [List.getElem?_eq_getElem hk] at hy; injection hy
              rw [List.drop_eq_getElem_cons hk, show b - k = (b - (k + 1)) + 1 by omega, List.take_succ_cons, List.all_cons, hyk])
            obtain ⟨b2, o2, e2, hb2, hc2⟩ := HC.out.g.resolve_left (by intro e; rw [e] at hbl; simp at hbl; omega)
            subst e2
            obtain ⟨g0, g1, g2⟩ := hc2 k y hy
            have hseg := fun w => seg_any (some ⟨b1, o1, none⟩) (some ⟨b2, o2, none⟩) A3 A4 cd.ps.length cd.gs.length cd.ss.length cd.is.length c1 c2 c3 c4 y w
            rw [show (inR y.fr y.tt cd.ss.length && decide (y.fr < y.tt)) = segOK cd y from rfl] at hseg
            obtain ⟨r, hr⟩ : ∃ r, segOK cd y = r := ⟨_, rfl⟩
            rw [hr] at hseg
            have HR := Lib.hid hr
            clear hr hc2 hy
            obtain ⟨yd, yf, yt⟩ := y
            simp only at g0 g1 g2 hseg
            have hkl : (k : Int) < cd.gs.length := by omega
            go_upto_region 9 with fail
            go_cut [54] (fun v wx => v = .bool (!r) ∧ Hid (TS w wx #[.slice (some ⟨b1, o1, none⟩) cd.ps.length c1, .slice (some ⟨b2, o2, none⟩) cd.gs.length c2, .slice A3 cd.ss.length c3, .slice A4 cd.is.length c4] #[.bool pa, .int .i64 (a : Int), .int .i64 (b : Int)] (some ⟨b1, o1, none⟩) (some ⟨b2, o2, none⟩) A3 A4 cd))
            case first =>
              go_region_with (go_at_call 17; refine (hseg _).mono ?_; rintro e w2 ⟨rfl, hb⟩; have HS := Lib.hid (show TS w w2 #[.slice (some ⟨b1, o1, none⟩) cd.ps.length c1, .slice (some ⟨b2, o2, none⟩) cd.gs.length c2, .slice A3 cd.ss.length c3, .slice A4 cd.is.length c4] #[.bool pa, .int .i64 (a : Int), .int .i64 (b : Int)] (some ⟨b1, o1, none⟩) (some ⟨b2, o2, none⟩) A3 A4 cd by first | exact HS.out.bel hb | exact HS.out.drew.bel hb); clear hb)
              all_goals
                go_wp2
                go_meet
                case rel => exact ⟨rfl, HS⟩
            case rest =>
              obtain ⟨rfl, HS9⟩ := hcut
              have HW9 := Lib.hid HS9.out.2.2.2
              clear HS xsz usz x0 x1 x2 x3 y0 y1 y2 y3 u0 u1 u2 v0 v1 v2 HC HW
              cases r with
              | false =>
                have HF := Lib.hid (show thereOK cd (j : Int) = false by rw [HQ.out, HP.out, HST.out, HR.out]; rfl)
                go_wp2
                go_ret
                exact ⟨ret_bool HF.out.symm, HW9.out⟩
              | true =>
                have HN := Lib.hid (HP.out.trans (by rw [HST.out, HR.out, Bool.true_and] : _ = ((cd.gs.drop (k + 1)).take (b - (k + 1))).all (segOK cd)))
                go_wp2
                go_roundw
                case rel => exact ⟨k + 1, by omega, by omega, by go_num, HN, HS9⟩
                case measure => simp [intOf]; omega
          · have HF := Lib.hid (show thereOK cd (j : Int) = true by rw [HQ.out, HP.out, show b - k = 0 by omega]; rfl)
            go_wp2
            go_ret
            exact ⟨ret_bool HF.out.symm, HW.out⟩
      · have hin2 : fr < 0 ∨ tt < fr ∨ (cd.gs.length : Int) < tt := by
          unfold inR at hin; simp at hin; omega
        have HP := Lib.hid (show pathOK cd ⟨pa, fr, tt⟩ = false by unfold pathOK; rw [Bool.eq_false_iff.2 hin]; rfl)
        clear hin
        by_cases c1 : fr < 0
        · go_enter Try.func16, Try.ntmps16
          go_wp2
          go_ret
          exact ⟨ret_bool (HQ.out.trans HP.out).symm, Bel.of (by (repeat' (first | (with_reducible exact Below.refl _ _) | (with_reducible refine Below.trans ?_ (below_drewN _ _ _)) | (with_reducible refine Below.alloc ?_ ?_ _) | (with_reducible refine Below.setCell ?_ ?_ _) | (with_reducible refine Below.drew ?_) | go_size)))⟩
        · by_cases c2 : tt < fr
          · go_enter Try.func16, Try.ntmps16
            go_wp2
            go_ret
            exact ⟨ret_bool (HQ.out.trans HP.out).symm, Bel.of (by (repeat' (first | (with_reducible exact Below.refl _ _) | (with_reducible refine Below.trans ?_ (below_drewN _ _ _)) | (with_reducible refine Below.alloc ?_ ?_ _) | (with_reducible refine Below.setCell ?_ ?_ _) | (with_reducible refine Below.drew ?_) | go_size)))⟩
          · have c3 : (cd.gs.length : Int) < tt := by omega
            go_enter Try.func16, Try.ntmps16
            go_wp2
            go_ret
            exact ⟨ret_bool (HQ.out.trans HP.out).symm, Bel.of (by (repeat' (first | (with_reducible exact Below.refl _ _) | (with_reducible refine Below.trans ?_ (below_drewN _ _ _)) | (with_reducible refine Below.alloc ?_ ?_ _) | (with_reducible refine Below.setCell ?_ ?_ _) | (with_reducible refine Below.drew ?_) | go_size)))⟩

end Go.Proofs.Ythlcbjjeklkmfaa
