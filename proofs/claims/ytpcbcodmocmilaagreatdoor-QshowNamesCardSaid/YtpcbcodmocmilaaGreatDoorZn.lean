/- qshow: a path, a side, an expression are written; Show (printed by gen_zn.py). -/
import Derived.Test.YtpcbcodmocmilaaGreatDoorZm
namespace Go.Proofs.YtpcbcodmocmilaaGreatDoor
open Go.RowKit

theorem joinW_snoc {α : Type} (sep : List UInt8) (f : α → List UInt8) (x : α) : ∀ l : List α, joinW sep f (l ++ [x]) = (if l.length = 0 then [] else joinW sep f l ++ sep) ++ f x
  | [] => rfl
  | [y] => by simp [joinW]
  | y :: z :: r => by
    have := joinW_snoc sep f x (z :: r)
    rw [if_neg (by simp)] at this ⊢
    rw [show y :: z :: r ++ [x] = y :: z :: (r ++ [x]) from rfl, joinW, joinW]
    rw [show z :: r ++ [x] = z :: (r ++ [x]) from rfl] at this
    rw [this]; simp
theorem joinW_mono {α : Type} (sep : List UInt8) (f : α → List UInt8) : ∀ a b : List α, (joinW sep f a).length ≤ (joinW sep f (a ++ b)).length
  | [], b => Nat.zero_le _
  | [x], [] => Nat.le_refl _
  | [x], y :: r => by rw [show [x] ++ y :: r = x :: y :: r from rfl, joinW, joinW, List.length_append, List.length_append]; omega
  | x :: y :: r, b => by
    have := joinW_mono sep f (y :: r) b
    rw [show x :: y :: r ++ b = x :: y :: (r ++ b) from rfl, joinW, joinW, List.length_append, List.length_append, List.length_append, List.length_append]
    rw [show y :: r ++ b = y :: (r ++ b) from rfl] at this
    omega
theorem RowG.get {α : Type} {k : Nat} {R : List Value → α → Prop} {w : World} {v : Value} {l : List α} (h : RowG (Lw w) k R w v l) : ∃ A cap, v = .slice A l.length cap ∧ l.length ≤ 9223372036854775807 ∧ ∀ (i : Nat) (x : α), l[i]? = some x → ∃ b off cs, A = some ⟨b, off, none⟩ ∧ b < w.heap.size ∧ cs.length = k ∧ w.rangeAt b (off + i * k) cs ∧ R cs x := by
  obtain ⟨A, cap, rfl, hcp, h⟩ := h
  refine ⟨A, cap, rfl, by omega, fun i x hx => ?_⟩
  rcases h with rfl | ⟨b, off, rfl, hb, _, hc⟩
  · simp at hx
  · obtain ⟨cs, h1, h2, h3⟩ := hc i x hx
    exact ⟨b, off, cs, rfl, hb, h1, h2, h3⟩
theorem PtrG.ptr {K : Nat → Prop} {R : List Value → ExprT → Prop} {w : World} {v : Value} {f : Option ExprT} (h : PtrG K R w v f) : ∃ q, v = .pointer q := by
  cases f with
  | none => exact ⟨_, h⟩
  | some e => obtain ⟨b, off, cs, h, _⟩ := h; exact ⟨_, h⟩
section
variable {w0 : World} {L : List BlkE} {rs : List RowE} {J : World → Prop} {N : Nat} {W : ExprT → Prop} {E : ExprT → List UInt8}
set_option maxRecDepth 100000 in
set_option maxHeartbeats 2000000 in
theorem wpath_any (hN : N ≤ 100000000) (p : PathT) (v : Value) (m : Nat) (hp : WfP (SS N) W p) (hv : SegsG (Lw w0) (ExR (Lw w0) m w0) w0 v p.segs) (hE : ∀ e, W e → EW w0 E e) (ht : Tab w0) (g : Nat) (t : List UInt8) (w : World) (h : WrS w0 w g 82 L rs J t) (hl : t.length + (pathW E p).length ≤ 900000000) : Calls Tryz.prog 34 #[.pointer (some ⟨g, 0, none⟩), .agg #[.bool p.abs, v]] w (fun r w' => r = .returned (.tuple #[]) ∧ WrS w0 w' g 82 L rs J (t ++ pathW E p)) := by
  obtain ⟨A, cap, rfl, hsl, hG⟩ := RowG.get hv
  obtain ⟨ab, segs⟩ := p
  simp only at hG hsl
  have M := Lib.hid h
  have HG := Lib.hid hG
  have HP := Lib.hid hp
  have HE := Lib.hid hE
  have HT := Lib.hid ht
  have HN := Lib.hid hN
  have HL := Lib.hid (show t.length + 1 + (segs.flatMap (segW E)).length ≤ 900000000 from by unfold pathW at hl; rw [List.length_cons] at hl; simp only at hl; omega)
  have hl1 : t.length ≤ 900000000 := by omega
  clear h hG hp hv hE ht hN hl
  go_enter Tryz.func34, Tryz.ntmps34
  let qd := bodyPost Tryz.prog Tryz.f34 (fun _ _ => True)
  obtain ⟨c, hc⟩ : ∃ c : UInt8, (if ab then 36 else 64) = c := ⟨_, rfl⟩
  have HC := Lib.hid hc
  clear hc
  go_upto_if 9 with (first | ((with_reducible refine g_bx 37 3 ?_); refine l_bxW rfl M.out ?_; clear M; intro g3 w' M) | ((with_reducible refine g_ld 4 ?_); refine l_l1b O_bool rfl (M.out.now.2) (rfl) ?_))
  (try simp only [Act.put, List.setIfInBounds_toArray, List.set_cons_zero, List.set_cons_succ])
  go_cut [10, 11, 12, 13, 14, 15, 16, 17] (fun _ _ _ _ _ _ _ _ wx => Hid (WrS w0 wx g 82 L rs (fun y => J y ∧ Blk y g3 37 #[.bool ab, .slice A segs.length cap]) (t ++ [c])))
  case first =>
    cases ab
    all_goals
      go_wp2_with (first | ((with_reducible refine g_ld 4 ?_); refine l_l1b O_bool rfl (M.out.now.2) (rfl) ?_) | (go_at_call 56; (with_reducible refine (wwl_any [36] g 82 BT_w _ _ (by decide) _ M.out (by first | omega | (simp only [List.length_cons, List.length_nil]; omega))).mono ?_); rintro e w' ⟨rfl, hm⟩; replace M := Lib.hid hm; clear hm) | (go_at_call 56; (with_reducible refine (wwl_any [64] g 82 BT_w _ _ (by decide) _ M.out (by first | omega | (simp only [List.length_cons, List.length_nil]; omega))).mono ?_); rintro e w' ⟨rfl, hm⟩; replace M := Lib.hid hm; clear hm))
      go_meet
      case rel => exact Lib.hid (by rw [← HC.out]; exact M.out)
  case rest =>
    clear M
    have M := hcut
    clear hcut
    go_upto_region 5 with ((with_reducible refine g_ld 35 ?_); refine l_l1b O_sSeg rfl (M.out.now.2) (rfl) ?_)
    replace M := Lib.hid (M.out.imp (J' := J) fun y h => h.1)
    go_wp2
    go_loopg [21] segs.length (fun gk kk wr => ∃ Pd Rd : List SegT, gk = Rd.length ∧ Hid (segs = Pd ++ Rd) ∧ kk = .int .i64 (Pd.length : Nat) ∧ Hid (WrS w0 wr g 82 L rs (J) (t ++ [c] ++ Pd.flatMap (segW E))))
    case atStart => exact ⟨[], segs, rfl, Lib.hid rfl, rfl, Lib.hid (by simpa using M.out)⟩
    case round =>
      clear M
      obtain ⟨Pd, Rd0, hgk, HD, rfl, M⟩ := hrel
      have HGK := Lib.hid hgk
      clear hgk
      cases Rd0 with
      | cons s Rd =>
        have HI := Lib.hid (show segs[Pd.length]? = some s from by rw [HD.out, List.getElem?_append_right (Nat.le_refl _), Nat.sub_self]; rfl)
        obtain ⟨b, off, cs, hqA, hbT, -, hra, hsc⟩ := HG.out _ _ HI.out
        subst hqA
        obtain ⟨sv, rfl, hrow⟩ := hsc
        obtain ⟨A2, c2, rfl, hsl2, hG2⟩ := RowG.get hrow
        have HG2 := Lib.hid hG2
        have HRA := Lib.hid hra
        have HBT := Lib.hid hbT
        have hlt : (Pd.length : Int) < (segs.length : Int) := by have := (List.getElem?_eq_some_iff.1 HI.out).1; omega
        have HWS := Lib.hid (HP.out s (List.mem_of_getElem? HI.out)).2
        clear hG2 hra hbT hrow
        have HX := Lib.hid (show t ++ [c] ++ (Pd ++ [s]).flatMap (segW E) = t ++ [c] ++ Pd.flatMap (segW E) ++ segW E s from by simp)
        have hxl : (t ++ [c] ++ Pd.flatMap (segW E)).length + (segW E s).length ≤ 900000000 := by
          have := HL.out
          rw [HD.out, List.flatMap_append, List.flatMap_cons, List.length_append, List.length_append] at this
          rw [List.length_append, List.length_append, List.length_singleton]; omega
        obtain ⟨X0, hX0⟩ : ∃ X0, t ++ [c] ++ Pd.flatMap (segW E) = X0 := ⟨_, rfl⟩
        rw [hX0] at M HX hxl
        clear hX0
        obtain ⟨dp, sels⟩ := s
        simp only at HG2 HWS hsl2
        have HSG := Lib.hid (show segW E ⟨dp, sels⟩ = (if dp then [46, 46] else []) ++ [91] ++ joinW [44, 32] (selW E) sels ++ [93] from by unfold segW; simp)
        rw [HSG.out] at hxl
        simp only [List.length_append, List.length_cons, List.length_nil] at hxl
        go_upto_if 26 with (first | ((with_reducible refine g_ld 44 ?_); refine l_ldf F_Seg rfl (fun j v hv => (World.cell?_of_block (M.out.bel0.block b HBT.out)).trans (HRA.out j v hv)) rfl ?_) | ((with_reducible refine g_al 44 5 ?_); refine l_alW F_Seg M.out ?_; clear M; intro g5 w' M) | ((with_reducible refine g_st 44 ?_); refine l_stW F_Seg rfl rfl M.out (by exact rfl) (by exact rfl) (by exact rfl) ?_; clear M; intro w' M) | ((with_reducible refine g_ld 4 ?_); refine l_l1b O_bool rfl (M.out.now.2) (rfl) ?_))
        (try simp only [Act.put, List.setIfInBounds_toArray, List.set_cons_zero, List.set_cons_succ])
        obtain ⟨dd, hdd⟩ : ∃ dd : List UInt8, (if dp then [46, 46] else []) = dd := ⟨_, rfl⟩
        rw [hdd] at hxl
        have HDD := Lib.hid hdd
        clear hdd
        go_cut [27, 28, 29, 30] (fun _ _ _ _ wx => Hid (WrS w0 wx g 82 L rs (fun y => J y ∧ Blk y g5 44 #[.bool dp, .slice A2 sels.length c2]) (X0 ++ dd)))
        case first =>
          cases dp
          · go_wp2_with (first | ((with_reducible refine g_ld 4 ?_); refine l_l1b O_bool rfl (M.out.now.2) (rfl) ?_))
            go_meet
            case rel => exact Lib.hid (by rw [← HDD.out]; have h := M.out; simpa using h)
          · go_wp2_with (first | ((with_reducible refine g_ld 4 ?_); refine l_l1b O_bool rfl (M.out.now.2) (rfl) ?_) | (go_at_call 56; (with_reducible refine (wwl_any [46, 46] g 82 BT_w _ _ (by decide) _ M.out (by first | omega | (simp only [List.length_cons, List.length_nil]; omega))).mono ?_); rintro e w' ⟨rfl, hm⟩; replace M := Lib.hid hm; clear hm))
            go_meet
            case rel => exact Lib.hid (by rw [← HDD.out]; exact M.out)
        case rest =>
          clear M
          have M := hcut
          clear hcut
          go_upto_region 11 with (first | ((with_reducible refine g_ld 42 ?_); refine l_l1b O_sSel rfl (M.out.now.2) (rfl) ?_) | (go_at_call 56; (with_reducible refine (wwl_any [91] g 82 BT_w _ _ (by decide) _ M.out (by first | omega | (simp only [List.length_append, List.length_cons, List.length_nil]; omega))).mono ?_); rintro e w' ⟨rfl, hm⟩; replace M := Lib.hid hm; clear hm))
          replace M := Lib.hid (M.out.imp (J' := J) fun y h => h.1)
          obtain ⟨X, hX⟩ : ∃ X, X0 ++ dd ++ [91] = X := ⟨_, rfl⟩
          have hXl : X.length + (joinW [44, 32] (selW E) sels).length + 1 ≤ 900000000 := by rw [← hX, List.length_append, List.length_append, List.length_singleton]; omega
          rw [hX] at M
          have HXX := Lib.hid hX
          clear hX hxl
          go_wp2
          go_loopg [38] sels.length (fun gk kk wr => ∃ Yd Yr : List SelT, gk = Yr.length ∧ Hid (sels = Yd ++ Yr) ∧ kk = .int .i64 (Yd.length : Nat) ∧ Hid (WrS w0 wr g 82 L rs (J) (X ++ joinW [44, 32] (selW E) Yd)))
          case atStart => exact ⟨[], sels, rfl, Lib.hid rfl, rfl, Lib.hid (by simpa [joinW] using M.out)⟩
          case round =>
            clear M
            obtain ⟨Yd, Yr0, hgy, HY, rfl, M⟩ := hrel
            have HGY := Lib.hid hgy
            clear hgy
            cases Yr0 with
            | cons z Yr =>
              have HIz := Lib.hid (show sels[Yd.length]? = some z from by rw [HY.out, List.getElem?_append_right (Nat.le_refl _), Nat.sub_self]; rfl)
              obtain ⟨b2, off2, cs2, hA2, hb2, -, hra2, hsel⟩ := HG2.out _ _ HIz.out
              subst hA2
              obtain ⟨pv, rfl, hptr⟩ := hsel
              obtain ⟨q, rfl⟩ := hptr.ptr
              have HPT := Lib.hid hptr
              have HB2 := Lib.hid hb2
              have HWZ := Lib.hid (HWS.out z (List.mem_of_getElem? HIz.out))
              have hyi : (Yd.length : Int) < (sels.length : Int) := by have := (List.getElem?_eq_some_iff.1 HIz.out).1; omega
              have HJ := Lib.hid (joinW_snoc [44, 32] (selW E) z Yd)
              have hjl : X.length + (joinW [44, 32] (selW E) (Yd ++ [z])).length ≤ 900000000 := by
                have h1 : (joinW [44, 32] (selW E) (Yd ++ [z])).length ≤ (joinW [44, 32] (selW E) sels).length := by rw [HY.out, show Yd ++ z :: Yr = (Yd ++ [z]) ++ Yr from by simp]; exact joinW_mono _ _ _ _
                omega
              rw [HJ.out] at hjl
              obtain ⟨k, hk⟩ : ∃ k, Yd.length = k := ⟨_, rfl⟩
              rw [hk] at hjl hyi hra2
              have HR2 := Lib.hid hra2
              clear hptr hra2 hb2
              have HK := Lib.hid hk
              rw [hk]
              obtain ⟨YJ, hYJ⟩ : ∃ YJ, joinW [44, 32] (selW E) Yd = YJ := ⟨_, rfl⟩
              rw [hYJ] at M hjl
              have HYJ := Lib.hid hYJ
              clear hk hYJ
              by_cases hk0 : k = 0
              · have hd1 : decide (0 < k) = false := by simp; omega
                have hd2 : decide ((0 : Int) < (k : Int)) = false := by simp; omega
                rw [if_pos hk0, List.nil_append] at hjl
                have HK0 := Lib.hid hk0
                have HY0 := Lib.hid (show YJ = [] from by have := List.eq_nil_of_length_eq_zero (HK.out.trans hk0); rw [← HYJ.out, this]; rfl)
                clear hk0
                go_wp2_with (first | ((with_reducible refine g_ld 47 ?_); refine l_ldf F_Sel rfl (fun j v hv => (World.cell?_of_block (M.out.bel0.block b2 HB2.out)).trans (HR2.out j v hv)) rfl ?_) | ((with_reducible refine g_al 47 7 ?_); refine l_alW F_Sel M.out ?_; clear M; intro g7 w' M) | ((with_reducible refine g_st 47 ?_); refine l_stW F_Sel rfl rfl M.out (by exact rfl) (by exact rfl) (by exact rfl) ?_; clear M; intro w' M) | ((with_reducible refine g_ld 47 ?_); refine l_lb F_Sel rfl (M.out.now.2) rfl ?_) | (go_at_call 57; (with_reducible refine (wsel_any HN.out z q m HWZ.out HPT.out HE.out HT.out g _ _ M.out (by rw [HY0.out, List.append_nil]; omega)).mono ?_); rintro e w' ⟨rfl, hm⟩; replace M := Lib.hid hm; clear hm))
                go_roundg Yr.length
                case measure => first | (rw [HGY.out]; simp; done) | (simp; done)
                case rel => exact ⟨Yd ++ [z], Yr, rfl, Lib.hid (by rw [HY.out]; simp), by rw [List.length_append, HK.out]; go_num, Lib.hid (by
                    have h := M.out.imp (J' := J) fun y h => h.1
                    rw [HJ.out, HK.out, if_pos HK0.out, List.nil_append]
                    rw [HY0.out, List.append_nil] at h
                    exact h)⟩
              · have hd1 : decide (0 < k) = true := by simp; omega
                have hd2 : decide ((0 : Int) < (k : Int)) = true := by simp; omega
                rw [if_neg hk0, List.length_append, List.length_append] at hjl
                have HK0 := Lib.hid hk0
                clear hk0
                simp only [List.length_cons, List.length_nil] at hjl
                go_wp2_with (first | ((with_reducible refine g_ld 47 ?_); refine l_ldf F_Sel rfl (fun j v hv => (World.cell?_of_block (M.out.bel0.block b2 HB2.out)).trans (HR2.out j v hv)) rfl ?_) | ((with_reducible refine g_al 47 7 ?_); refine l_alW F_Sel M.out ?_; clear M; intro g7 w' M) | ((with_reducible refine g_st 47 ?_); refine l_stW F_Sel rfl rfl M.out (by exact rfl) (by exact rfl) (by exact rfl) ?_; clear M; intro w' M) | ((with_reducible refine g_ld 47 ?_); refine l_lb F_Sel rfl (M.out.now.2) rfl ?_) | (go_at_call 56; (with_reducible refine (wwl_any [44, 32] g 82 BT_w _ _ (by decide) _ M.out (by first | omega | (simp only [List.length_append, List.length_cons, List.length_nil]; omega))).mono ?_); rintro e w' ⟨rfl, hm⟩; replace M := Lib.hid hm; clear hm) | (go_at_call 57; (with_reducible refine (wsel_any HN.out z q m HWZ.out HPT.out HE.out HT.out g _ _ M.out (by first | omega | (simp only [List.length_append, List.length_cons, List.length_nil]; omega))).mono ?_); rintro e w' ⟨rfl, hm⟩; replace M := Lib.hid hm; clear hm))
                go_roundg Yr.length
                case measure => first | (rw [HGY.out]; simp; done) | (simp; done)
                case rel => exact ⟨Yd ++ [z], Yr, rfl, Lib.hid (by rw [HY.out]; simp), by rw [List.length_append, HK.out]; go_num, Lib.hid (by
                    have h := M.out.imp (J' := J) fun y h => h.1
                    rw [HJ.out, HK.out, if_neg HK0.out, HYJ.out]
                    simpa using h)⟩
            | nil =>
              obtain rfl : sels = Yd := by simpa using HY.out
              have hnl : ¬ (sels.length : Int) < (sels.length : Int) := by omega
              go_wp2_with (first | (go_at_call 56; (with_reducible refine (wwl_any [93] g 82 BT_w _ _ (by decide) _ M.out (by first | omega | (simp only [List.length_append, List.length_cons, List.length_nil]; omega))).mono ?_); rintro e w' ⟨rfl, hm⟩; replace M := Lib.hid hm; clear hm))
              go_roundg Rd.length
              case measure => first | (rw [HGK.out]; simp; done) | (simp; done)
              case rel => exact ⟨Pd ++ [⟨dp, sels⟩], Rd, rfl, Lib.hid (by rw [HD.out]; simp), by first | go_num | simp, Lib.hid (by
                    have h := M.out
                    rw [HX.out, HSG.out, HDD.out]
                    rw [← HXX.out] at h
                    simpa using h)⟩
      | nil =>
        obtain rfl : segs = Pd := by simpa using HD.out
        have hnl : ¬ (segs.length : Int) < (segs.length : Int) := by omega
        go_wp2
        go_end0
        exact ⟨rfl, by have h := M.out; rw [← HC.out] at h; unfold pathW; simpa using h⟩

end

end Go.Proofs.YtpcbcodmocmilaaGreatDoor
