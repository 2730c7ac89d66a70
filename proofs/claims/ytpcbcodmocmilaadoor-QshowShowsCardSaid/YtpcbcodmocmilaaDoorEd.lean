/- laceworkref18: Show, side, expr (printed by gen_ed.py). -/
import Derived.Test.YtpcbcodmocmilaaDoorEc
namespace Go.Proofs.YtpcbcodmocmilaaDoor
open Go.RowKit

theorem seg_count (E : ExprT → List UInt8) : ∀ l : List SegT, l.length ≤ (l.flatMap (segW E)).length
  | [] => Nat.le_refl _
  | s :: r => by
    have := seg_count E r
    have h : 1 ≤ (segW E s).length := by unfold segW; rw [List.length_append, List.length_cons]; omega
    rw [List.flatMap_cons, List.length_append, List.length_cons]; omega
section
variable {N : Nat} {W : ExprT → Prop} {E : ExprT → List UInt8}

set_option maxRecDepth 100000 in
set_option maxHeartbeats 2000000 in
theorem zshow_any (hN : N ≤ 100000000) (w0 w : World) (hbw : Bel w0.heap.size w0 w) (p : PathT) (v : Value) (m : Nat) (hp : WfP (SS N) W p) (hv : SegsG (Lw w0) (ExR (Lw w0) m w0) w0 v p.segs) (hE : ∀ e, W e → REW w0 E e) (hl : (pathW E p).length ≤ 800000000) : Calls Tryd.prog 8 #[.agg #[.bool p.abs, v]] w (fun r w' => r = .returned (.string (bs (pathW E p))) ∧ Bel w.heap.size w w') := by
  obtain ⟨A, cap, rfl, hsl, hG⟩ := RowG.get hv
  obtain ⟨ab, segs⟩ := p
  simp only at hG hsl
  have M := Lib.hid (Own.start [] w (fun _ => True) fun _ _ => trivial)
  have HB := Lib.hid hbw
  clear hbw
  have HG := Lib.hid hG
  have HP := Lib.hid hp
  have HE := Lib.hid hE
  have HN := Lib.hid hN
  obtain ⟨c, hc⟩ : ∃ c : UInt8, (if ab then 36 else 64) = c := ⟨_, rfl⟩
  have HPW := Lib.hid (show pathW E ⟨ab, segs⟩ = [c] ++ segs.flatMap (segW E) from by rw [← hc]; rfl)
  have HL := Lib.hid (show 1 + (segs.flatMap (segW E)).length ≤ 800000000 from by rw [HPW.out] at hl; simp at hl ⊢; omega)
  have hsl2 : segs.length ≤ 800000000 := by have := seg_count E segs; have := HL.out; omega
  have HC := Lib.hid hc
  clear hG hp hv hE hN hl hc hsl
  go_enter Tryd.func8, Tryd.ntmps8
  let qd := bodyPost Tryd.prog Tryd.f8 (fun _ _ => True)
  go_upto_if 7 with (first | ((with_reducible refine g_bx 25 1 ?_); refine l_bx rfl M.out ?_; clear M; intro g1 w' hg1 M; replace M := Lib.hid M.out.freeze) | ((with_reducible refine g_ld 4 ?_); refine l_l1b O_bool rfl (M.out.now.2) (rfl) ?_))
  (try simp only [Act.put, List.setIfInBounds_toArray, List.set_cons_zero, List.set_cons_succ])
  go_cut [3] (fun v3 wx => v3 = .string (bs [c]) ∧ Hid (Own [] w wx [] [] (fun y => True ∧ Blk y g1 25 #[.bool ab, .slice A segs.length cap])))
  case first =>
    cases ab
    all_goals
      go_wp2
      go_meet
      case rel => exact ⟨by rw [← HC.out]; rfl, M⟩
  case rest =>
    clear M
    obtain ⟨rfl, M⟩ := hcut
    go_wp2
    go_loopg [3, 4] segs.length (fun gk sv kk wr => ∃ Pd Rd : List SegT, gk = Rd.length ∧ Hid (segs = Pd ++ Rd) ∧ kk = .int .i64 (Pd.length : Nat) ∧ sv = .string (bs ([c] ++ Pd.flatMap (segW E))) ∧ Hid (Own [] w wr [] [] (fun y => True ∧ Blk y g1 25 #[.bool ab, .slice A segs.length cap])))
    case atStart => exact ⟨[], segs, rfl, Lib.hid rfl, rfl, by simp, M⟩
    case round =>
      clear M
      obtain ⟨Pd, Rd0, hgk, HD, rfl, rfl, M⟩ := hrel
      have HGK := Lib.hid hgk
      clear hgk
      cases Rd0 with
      | cons s Rd =>
        have HI := Lib.hid (show segs[Pd.length]? = some s from by rw [HD.out, List.getElem?_append_right (Nat.le_refl _), Nat.sub_self]; rfl)
        obtain ⟨b, off, cs, hqA, hbT, -, hra, hsc⟩ := HG.out _ _ HI.out
        subst hqA
        obtain ⟨sv, rfl, hrow⟩ := hsc
        obtain ⟨A2, c2, rfl, hsl3, hG2⟩ := RowG.get hrow
        have HG2 := Lib.hid hG2
        have HBT := Lib.hid hbT
        have hlt : (Pd.length : Int) < (segs.length : Int) := by have := (List.getElem?_eq_some_iff.1 HI.out).1; omega
        have HWS := Lib.hid (HP.out s (List.mem_of_getElem? HI.out)).2
        have HX := Lib.hid (show [c] ++ (Pd ++ [s]).flatMap (segW E) = [c] ++ Pd.flatMap (segW E) ++ segW E s from by simp)
        have hxl : ([c] ++ Pd.flatMap (segW E)).length + (segW E s).length ≤ 800000000 := by
          have := HL.out
          rw [HD.out, List.flatMap_append, List.flatMap_cons, List.length_append, List.length_append] at this
          rw [List.length_append, List.length_singleton]; omega
        obtain ⟨n, hn⟩ : ∃ n, Pd.length = n := ⟨_, rfl⟩
        rw [hn] at hlt hra
        have HRA := Lib.hid hra
        have HNP := Lib.hid hn
        rw [hn]
        obtain ⟨X0, hX0⟩ : ∃ X0, [c] ++ Pd.flatMap (segW E) = X0 := ⟨_, rfl⟩
        rw [hX0] at HX hxl
        rw [hX0]
        clear hX0 hG2 hbT hrow hra hn
        obtain ⟨dp, sels⟩ := s
        simp only at HG2 HWS hsl3
        have HSG := Lib.hid (show segW E ⟨dp, sels⟩ = (if dp then [46, 46] else []) ++ [91] ++ joinW [44, 32] (selW E) sels ++ [93] from by unfold segW; simp)
        rw [HSG.out] at hxl
        simp only [List.length_append, List.length_cons, List.length_nil] at hxl
        obtain ⟨dd, hdd⟩ : ∃ dd : List UInt8, (if dp then [46, 46] else []) = dd := ⟨_, rfl⟩
        rw [hdd] at hxl
        have HDD := Lib.hid hdd
        clear hdd
        go_upto_if 20 with (first | ((with_reducible refine g_ld 23 ?_); refine l_l1b O_sSeg rfl (M.out.now.2) (rfl) ?_) | ((with_reducible refine g_ld 4 ?_); refine l_ldc O_bool rfl ((World.cell?_of_block ((HB.out.next M.out.bel0).block b HBT.out)).trans (HRA.out 0 _ rfl)) ?_))
        (try simp only [Act.put, List.setIfInBounds_toArray, List.set_cons_zero, List.set_cons_succ])
        go_cut [3, 21, 22] (fun v3 _ _ wx => v3 = .string (bs (X0 ++ dd)) ∧ Hid (Own [] w wx [] [] (fun y => True ∧ Blk y g1 25 #[.bool ab, .slice (some ⟨b, off, none⟩) segs.length cap])))
        case first =>
          cases dp
          · go_wp2
            go_meet
            case rel => exact ⟨by rw [← HDD.out]; exact congrArg (fun l => Value.string (bs l)) (by simp), M⟩
          · have hx2 : X0.length + 2 ≤ 800000000 := by have : dd.length = 2 := by rw [← HDD.out]; rfl
                                                       omega
            go_wp2_with ((with_reducible refine g_cat ?_); refine l_cat rfl rfl (by first | omega | (simp <;> omega)) ?_)
            go_meet
            case rel => exact ⟨by rw [← HDD.out]; rfl, M⟩
        case rest =>
          clear M
          obtain ⟨rfl, M⟩ := hcut
          obtain ⟨X, hX⟩ : ∃ X, X0 ++ dd ++ [91] = X := ⟨_, rfl⟩
          have hXl : X.length + (joinW [44, 32] (selW E) sels).length + 1 ≤ 800000000 := by rw [← hX, List.length_append, List.length_append, List.length_singleton]; omega
          have HXX := Lib.hid hX
          go_upto_region 11 with ((with_reducible refine g_cat ?_); refine l_cat rfl rfl (by first | omega | (simp <;> omega)) ?_)
          clear hX hxl
          go_wp2
          go_loopg [3, 5] sels.length (fun gk sv kk wr => ∃ Yd Yr : List SelT, gk = Yr.length ∧ Hid (sels = Yd ++ Yr) ∧ kk = .int .i64 (Yd.length : Nat) ∧ sv = .string (bs (X ++ joinW [44, 32] (selW E) Yd)) ∧ Hid (Own [] w wr [] [] (fun y => True ∧ Blk y g1 25 #[.bool ab, .slice (some ⟨b, off, none⟩) segs.length cap])))
          case atStart => exact ⟨[], sels, rfl, Lib.hid rfl, rfl, by simp [joinW], M⟩
          case round =>
            clear M
            obtain ⟨Yd, Yr0, hgy, HY, rfl, rfl, M⟩ := hrel
            have HGY := Lib.hid hgy
            clear hgy
            cases Yr0 with
            | cons z Yr =>
              have HIz := Lib.hid (show sels[Yd.length]? = some z from by rw [HY.out, List.getElem?_append_right (Nat.le_refl _), Nat.sub_self]; rfl)
              obtain ⟨b2, off2, cs2, hA2, hb2, -, hra2, hsel⟩ := HG2.out _ _ HIz.out
              subst hA2
              obtain ⟨pv, rfl, hptr⟩ := hsel
              obtain ⟨q, rfl⟩ := hptr.ptr
              have HPT := Lib.hid hptr
              have HB2 := Lib.hid hb2
              have HWZ := Lib.hid (HWS.out z (List.mem_of_getElem? HIz.out))
              have hyi : (Yd.length : Int) < (sels.length : Int) := by have := (List.getElem?_eq_some_iff.1 HIz.out).1; omega
              have HJ := Lib.hid (joinW_snoc [44, 32] (selW E) z Yd)
              have hjl : X.length + (joinW [44, 32] (selW E) (Yd ++ [z])).length ≤ 800000000 := by
                have h1 : (joinW [44, 32] (selW E) (Yd ++ [z])).length ≤ (joinW [44, 32] (selW E) sels).length := by rw [HY.out, show Yd ++ z :: Yr = (Yd ++ [z]) ++ Yr from by simp]; exact joinW_mono _ _ _ _
                omega
              rw [HJ.out, List.length_append] at hjl
              have hzl : (selW E z).length ≤ 800000000 := by omega
              obtain ⟨k, hk⟩ : ∃ k, Yd.length = k := ⟨_, rfl⟩
              rw [hk] at hyi hra2 hjl
              have HR2 := Lib.hid hra2
              have HK := Lib.hid hk
              rw [hk]
              obtain ⟨YJ, hYJ⟩ : ∃ YJ, joinW [44, 32] (selW E) Yd = YJ := ⟨_, rfl⟩
              rw [hYJ] at hjl
              rw [hYJ]
              have HYJ := Lib.hid hYJ
              clear hptr hra2 hb2 hk hYJ
              by_cases hk0 : k = 0
              · have hd1 : decide (0 < k) = false := by simp; omega
                have hd2 : decide ((0 : Int) < (k : Int)) = false := by simp; omega
                rw [if_pos hk0] at hjl
                have HK0 := Lib.hid hk0
                have HY0 := Lib.hid (show YJ = [] from by have := List.eq_nil_of_length_eq_zero (HK.out.trans hk0); rw [← HYJ.out, this]; rfl)
                have hyl : YJ.length = 0 := by rw [HY0.out]; rfl
                have hyl2 : YJ.length ≤ 0 := by omega
                clear hk0 hyl
                simp only [List.length_nil] at hjl
                go_wp2_with (first | ((with_reducible refine g_ld 23 ?_); refine l_l1b O_sSeg rfl (M.out.now.2) (rfl) ?_) | ((with_reducible refine g_ld 64 ?_); refine l_ldc O_sSel rfl ((World.cell?_of_block ((HB.out.next M.out.bel0).block b HBT.out)).trans (HRA.out 1 _ rfl)) ?_) | ((with_reducible refine g_ld 70 ?_); refine l_ldf F_Sel rfl (fun j v hv => (World.cell?_of_block ((HB.out.next M.out.bel0).block b2 HB2.out)).trans (HR2.out j v hv)) rfl ?_) | (go_at_call 19; (with_reducible refine (zsel_any HN.out w0 _ (HB.out.next M.out.bel0) z q m HWZ.out HPT.out HE.out hzl).mono ?_); rintro e w' ⟨rfl, hb⟩; replace M := Lib.hid (M.out.bel hb); clear hb) | ((with_reducible refine g_cat ?_); refine l_cat rfl rfl (by first | omega | (simp <;> omega)) ?_))
                go_roundg Yr.length
                case measure => first | (rw [HGY.out]; simp; done) | (simp; done)
                case rel => exact ⟨Yd ++ [z], Yr, rfl, Lib.hid (by rw [HY.out]; simp), by rw [List.length_append, HK.out]; go_num, by
                    rw [HJ.out, HK.out, if_pos HK0.out, List.nil_append, HY0.out]
                    exact congrArg (fun l => Value.string (bs l)) (by simp), M⟩
              · have hd1 : decide (0 < k) = true := by simp; omega
                have hd2 : decide ((0 : Int) < (k : Int)) = true := by simp; omega
                rw [if_neg hk0, List.length_append] at hjl
                have HK0 := Lib.hid hk0
                clear hk0
                simp only [List.length_cons, List.length_nil] at hjl
                go_wp2_with (first | ((with_reducible refine g_ld 23 ?_); refine l_l1b O_sSeg rfl (M.out.now.2) (rfl) ?_) | ((with_reducible refine g_ld 64 ?_); refine l_ldc O_sSel rfl ((World.cell?_of_block ((HB.out.next M.out.bel0).block b HBT.out)).trans (HRA.out 1 _ rfl)) ?_) | ((with_reducible refine g_ld 70 ?_); refine l_ldf F_Sel rfl (fun j v hv => (World.cell?_of_block ((HB.out.next M.out.bel0).block b2 HB2.out)).trans (HR2.out j v hv)) rfl ?_) | (go_at_call 19; (with_reducible refine (zsel_any HN.out w0 _ (HB.out.next M.out.bel0) z q m HWZ.out HPT.out HE.out hzl).mono ?_); rintro e w' ⟨rfl, hb⟩; replace M := Lib.hid (M.out.bel hb); clear hb) | ((with_reducible refine g_cat ?_); refine l_cat rfl rfl (by first | omega | (simp <;> omega)) ?_))
                go_roundg Yr.length
                case measure => first | (rw [HGY.out]; simp; done) | (simp; done)
                case rel => exact ⟨Yd ++ [z], Yr, rfl, Lib.hid (by rw [HY.out]; simp), by rw [List.length_append, HK.out]; go_num, by
                    rw [HJ.out, HK.out, if_neg HK0.out, HYJ.out]
                    exact congrArg (fun l => Value.string (bs l)) (by simp), M⟩
            | nil =>
              obtain rfl : sels = Yd := by simpa using HY.out
              have hnl : ¬ (sels.length : Int) < (sels.length : Int) := by omega
              go_wp2_with (first | ((with_reducible refine g_ld 23 ?_); refine l_l1b O_sSeg rfl (M.out.now.2) (rfl) ?_) | ((with_reducible refine g_ld 64 ?_); refine l_ldc O_sSel rfl ((World.cell?_of_block ((HB.out.next M.out.bel0).block b HBT.out)).trans (HRA.out 1 _ rfl)) ?_) | ((with_reducible refine g_cat ?_); refine l_cat rfl rfl (by first | omega | (simp <;> omega)) ?_))
              go_roundg Rd.length
              case measure => first | (rw [HGK.out]; simp; done) | (simp; done)
              case rel => exact ⟨Pd ++ [⟨dp, sels⟩], Rd, rfl, Lib.hid (by rw [HD.out]; simp), by rw [List.length_append, HNP.out]; go_num, by
                    rw [HX.out, HSG.out, HDD.out, ← HXX.out]
                    exact congrArg (fun l => Value.string (bs l)) (by simp), M⟩
      | nil =>
        obtain rfl : segs = Pd := by simpa using HD.out
        have hnl : ¬ (segs.length : Int) < (segs.length : Int) := by omega
        go_wp2_with (first | ((with_reducible refine g_ld 23 ?_); refine l_l1b O_sSeg rfl (M.out.now.2) (rfl) ?_))
        go_ret
        exact ⟨ret_bs HPW.out.symm, M.out.bel0⟩

end

end Go.Proofs.YtpcbcodmocmilaaDoor
