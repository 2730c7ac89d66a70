/- G50: Fd, RowA, RowH joined. -/
import Derived.ProofKit
import Derived.OpenShut
import Derived.ShutString
import Derived.ChangeSame
import Derived.Lay
import Derived.LaidMore
import Derived.Stop.Joined
import Derived.Stop.LaidErr
import Derived.Test.YtpcbcodmocmilaaGreatDoorG46
import Derived.Test.YtpcbcodmocmilaaGreatDoorEb
import Derived.Test.YtpcbcodmocmilaaGreatDoorG49
import Derived.Test.YtpcbcodmocmilaaGreatDoorA0
import Derived.Test.YtpcbcodmocmilaaGreatDoorRows
import Derived.Test.YtpcbcodmocmilaaGreatDoorZm
namespace Go.Proofs.YtpcbcodmocmilaaGreatDoor
open Go.RowKit
/- law18: QshowNames (printed by gen_fd.py). -/
section
open Go.RowKit

set_option maxRecDepth 100000 in
set_option maxHeartbeats 2000000 in
theorem rright_any (s : ByteArray) (b : Bool) (w : World) (hs : s.size ≤ 1000000000) (hb : rightL s.data.toList = b) : Calls Tryz.prog 20 #[.string s] w fun e w' => e = .returned (.bool b) ∧ Bel w.heap.size w w' := by
  have HB0 := Lib.hid hb
  clear hb
  have M := Lib.hid (Own.start [] w (fun _ => True) fun _ _ => trivial)
  go_enter Tryz.func20, Tryz.ntmps20
  go_wp2
  go_loopg [3] s.size (fun gk kk wr => ∃ k : Nat, k ≤ s.size ∧ gk = s.size - k ∧ kk = .int .i64 k ∧ Hid (rightL (s.data.toList.drop k) = b) ∧ Hid (Own [] w wr [] [] (fun _ => True)))
  case atStart => exact ⟨0, Nat.zero_le _, rfl, rfl, HB0, M⟩
  case round =>
    clear M
    obtain ⟨k, hk, hgk, rfl, HR, M⟩ := hrel
    have HG := Lib.hid hgk
    clear hgk HB0
    by_cases hlt : k < s.size
    · obtain ⟨c, n, hv⟩ : ∃ c n, scalV (s.data.toList.drop k) = (c, n) := ⟨_, _, rfl⟩
      have hn := scalV_len (s.data.toList.drop k)
      rw [hv] at hn
      simp only at hn
      have HSC := Lib.hid (show scalV (s.extract k s.size).data.toList = (c, n) by rw [ext_drop]; exact hv)
      have hne : s.data.toList.drop k ≠ [] := fun e => by
        have := congrArg List.length e
        simp at this; omega
      have hdl : (s.data.toList.drop k).length = s.size - k := by rw [List.length_drop, len_toList]
      have hzp : (s.extract k s.size).size ≤ maxLen := by unfold maxLen; rw [ByteArray.size_extract]; omega
      by_cases h0 : n = 0
      · subst h0
        have HF := Lib.hid (HR.out.symm.trans (right_z (by rw [hv]) hne))
        clear hv hn hne hdl
        go_wp2_with (go_at_call 37; refine (rscal_at _ _ _ _ hzp HSC).mono ?_; rintro e w' ⟨rfl, hbw⟩; replace M := Lib.hid (M.out.bel (Bel.of hbw)); clear hbw)
        go_ret
        exact ⟨by rw [HF.out]; rfl, M.out.bel0⟩
      · obtain ⟨j, rfl⟩ := Int.eq_ofNat_of_zero_le hn.1
        have hj : 0 < j := by omega
        have hjl : j ≤ s.size - k := by rw [← hdl]; exact hn.2.1
        have HN := Lib.hid (show rightL (s.data.toList.drop (k + j)) = b from by
          rw [← List.drop_drop]
          have := right_step (l := s.data.toList.drop k) (by rw [hv]; simpa using hj)
          rw [hv] at this
          rw [← HR.out, this]; rfl)
        have h0' : ((j : Int) == 0) = false := by simp; omega
        clear hv hn hne hdl h0
        go_wp2_with (go_at_call 37; refine (rscal_at _ _ _ _ hzp HSC).mono ?_; rintro e w' ⟨rfl, hbw⟩; replace M := Lib.hid (M.out.bel (Bel.of hbw)); clear hbw)
        go_roundg (s.size - (k + j))
        case measure => rw [HG.out]; omega
        case rel => exact ⟨k + j, by omega, rfl, by go_num, HN, M⟩
    · obtain rfl : k = s.size := by omega
      have HF := Lib.hid (show b = true from by rw [← HR.out, List.drop_of_length_le (by rw [len_toList]; omega)]; rfl)
      go_wp2
      go_ret
      exact ⟨by rw [HF.out]; rfl, M.out.bel0⟩
theorem bs_self (s : ByteArray) : bs s.data.toList = s := by apply ByteArray.ext; simp [bs]
theorem nm_row {y : World} {T1 T2 : TypeId} {g1 g2 : Nat} {s : ByteArray} (h1 : Blk y g1 T1 #[.bool false, .slice (some ⟨g2, 0, none⟩) 1 1]) (h2 : Blk y g2 T2 #[.int .i64 0, .string s, .int .i64 0, .int .i64 0, .int .i64 0, .int .i64 0, .bool false, .bool false, .pointer none]) :
    SegsG (Lw y) (ExR (Lw y) 0 y) y (.slice (some ⟨g1, 0, none⟩) 1 1) (nmP s.data.toList).segs := by
  refine ⟨_, 1, rfl, ⟨Nat.le_refl _, by omega⟩, .inr ⟨g1, 0, rfl, h1.lt, h1.lt, fun i x hx => ?_⟩⟩
  obtain ⟨rfl, rfl⟩ : i = 0 ∧ x = ⟨false, [nmS s.data.toList]⟩ := by
    cases i with
    | zero => exact ⟨rfl, (Option.some.inj hx).symm⟩
    | succ i => simp [nmP] at hx
  refine ⟨[.bool false, .slice (some ⟨g2, 0, none⟩) 1 1], rfl, fun j u hu => ?_, ⟨_, rfl, ⟨_, 1, rfl, ⟨Nat.le_refl _, by omega⟩, .inr ⟨g2, 0, rfl, h2.lt, h2.lt, fun i x hx => ?_⟩⟩⟩⟩
  · rw [show 0 + 0 * 2 + j = j from by omega, h1.cell j]; simpa using hu
  · obtain ⟨rfl, rfl⟩ : i = 0 ∧ x = nmS s.data.toList := by
      cases i with
      | zero => exact ⟨rfl, (Option.some.inj hx).symm⟩
      | succ i => simp at hx
    refine ⟨[.int .i64 0, .string s, .int .i64 0, .int .i64 0, .int .i64 0, .int .i64 0, .bool false, .bool false, .pointer none], rfl, fun j u hu => ?_, ⟨.pointer none, ?_, rfl⟩⟩
    · rw [show 0 + 0 * 9 + j = j from by omega, h2.cell j]; simpa using hu
    · unfold selL nmS; rw [bs_self]
theorem shownm {X : List UInt8} {T1 T2 : TypeId} {g1 g2 : Nat} (s : ByteArray) (y : World) (hs : s.size ≤ 100) (hr : rightL s.data.toList = true) (hX : txtL 39 s.data.toList = X) (ht : Tab y) (h1 : Blk y g1 T1 #[.bool false, .slice (some ⟨g2, 0, none⟩) 1 1]) (h2 : Blk y g2 T2 #[.int .i64 0, .string s, .int .i64 0, .int .i64 0, .int .i64 0, .int .i64 0, .bool false, .bool false, .pointer none]) :
    Calls Tryz.prog 18 #[.agg #[.bool true, .slice (some ⟨g1, 0, none⟩) 1 1]] y fun e w' => e = .returned (.string (bs (36 :: 91 :: (X ++ [93])))) ∧ Bel y.heap.size y w' := by
  subst hX
  have hl := txt_len s.data.toList
  rw [len_toList] at hl
  rw [show 36 :: 91 :: (txtL 39 s.data.toList ++ [93]) = showT (nmP s.data.toList) from (nmP_show _).symm]
  exact wshow_any (N := s.data.toList.length) (by rw [len_toList]; omega) (nmP s.data.toList) _ 0 y (nmP_wf hr) (nm_row h1 h2) ht (by rw [nmP_show]; simp only [List.length_append, List.length_cons, List.length_nil]; omega)
def NmC (s : ByteArray) (b o b2 o2 c2 : Nat) (K : Nat → Prop) (y : World) : Prop := (K b ∧ b < y.heap.size) ∧ (K b2 ∧ b2 < y.heap.size) ∧ y.cell? ⟨b, o + 1, none⟩ = some (.slice (some ⟨b2, o2, none⟩) 1 c2) ∧ y.cell? ⟨b2, o2, none⟩ = some (.int .i64 0) ∧ y.cell? ⟨b2, o2 + 1, none⟩ = some (.string s)
theorem NmC.keep {s : ByteArray} {b o b2 o2 c2 : Nat} {K K' : Nat → Prop} {y y' : World} (h : NmC s b o b2 o2 c2 K y) (hk : Kp K K' y y') : NmC s b o b2 o2 c2 K' y' := by
  obtain ⟨⟨a1, a2⟩, ⟨b1, b2⟩, c1, c2, c3⟩ := h
  exact ⟨⟨(hk.block _ a1 a2).1, Nat.lt_of_lt_of_le a2 hk.size⟩, ⟨(hk.block _ b1 b2).1, Nat.lt_of_lt_of_le b2 hk.size⟩, (hk.cell a1 a2).trans c1, (hk.cell b1 b2).trans c2, (hk.cell b1 b2).trans c3⟩
theorem nm_parse {X : List UInt8} {s : ByteArray} (w : World) (hl : X.length ≤ 900) (hp : parseT true (36 :: 91 :: (X ++ [93])) = .ok (nmP s.data.toList)) : Calls Tryz.prog 17 #[.string (bs (36 :: 91 :: (X ++ [93])))] w fun e w' => ∃ b o b2 o2 c c2, e = .returned (.tuple #[.agg #[.bool true, .slice (some ⟨b, o, none⟩) 1 c], .agg #[.int .i64 0, .int .i64 0]]) ∧ NmC s b o b2 o2 c2 (Fr w) w' ∧ Bel w.heap.size w w' := by
  refine (parsec_ok (s := bs (36 :: 91 :: (X ++ [93]))) w (by rw [bs_size2]; simp only [List.length_append, List.length_cons, List.length_nil]; omega) (by rw [bs_list]; exact hp)).mono ?_
  rintro e w' ⟨m, A, c, css, rfl, hc, hsg, hb⟩
  obtain ⟨h1, h2, h3⟩ := hsg
  rcases h3 with h3 | ⟨b, o, rfl, hK, hlt, h3⟩
  · exact absurd h3 (by simp [nmP])
  have h0 : 0 < css.length := by rw [h1]; simp [nmP]
  obtain ⟨hcell, sv, hcs, hrow⟩ := h3 0 _ ⟨false, [nmS s.data.toList]⟩ (List.getElem?_eq_getElem h0) rfl
  rw [hcs] at hcell
  obtain ⟨A2, c2, rfl, hc2, h4⟩ := hrow
  rcases h4 with h4 | ⟨b2, o2, rfl, hK2, hlt2, h4⟩
  · exact absurd h4 (by simp)
  obtain ⟨cs2, hl2, hcell2, pv, hcs2, hpv⟩ := h4 0 (nmS s.data.toList) rfl
  subst hcs2
  have e0 := hcell2 0 _ rfl
  have e1 := hcell2 1 _ rfl
  have e2 := hcell 1 _ rfl
  refine ⟨b, o, b2, o2, c, c2, rfl, ⟨⟨hK, hlt⟩, ⟨hK2, hlt2⟩, ?_, ?_, ?_⟩, hb⟩
  · rw [show o + 1 = o + 0 * 2 + 1 from by omega]; exact e2
  · rw [show o2 = o2 + 0 * 9 + 0 from by omega]; exact e0
  · rw [show o2 + 1 = o2 + 0 * 9 + 1 from by omega, e1]; unfold nmS; rw [bs_self]
theorem rbetw39 {X : List UInt8} (s : ByteArray) (w : World) (hs : s.size ≤ 100) (hX : txtL 39 s.data.toList = X) : Calls Tryz.prog 21 #[.string s, .int .u8 39] w fun r w' => r = .returned (.string (bs X)) ∧ Bel w.heap.size w w' := by
  subst hX
  exact rbetw_any 39 s w (by omega)
section
variable {P : Program} {ops : Array Oper} {dst : Option Tmp} {tt : TypeId} {pos : String} {af : Array Edge} {a : Act} {w : World} {Q : Exit → Act → World → Prop}
theorem q_ldc {rest : List Oper} {T : TypeId} (F : OneF P T) {gd : Nat × Bool} {x : Operand} {b o : Nat} {v : Value} (hw : Region.wanted ⟨dst, .load T x, tt, pos, af, some gd⟩ (yielded ops a.tmps) = true) (hx : a.eval x = .pointer (some ⟨b, o, none⟩)) (hc : w.cell? ⟨b, o, none⟩ = some v)
    (h : wpList P ops Q rest (a.put dst v) w) : wpList P ops Q (⟨dst, .load T x, tt, pos, af, some gd⟩ :: rest) a w :=
  wpList_step fun _ hK => by rw [if_pos hw]; exact o_ld1 F hx hc (hK _ _ h)
end

theorem SL_sSl : SlF Tryz.prog 42 47 9 72 (.agg #[.int .i64 0, .string ⟨#[]⟩, .int .i64 0, .int .i64 0, .int .i64 0, .int .i64 0, .bool false, .bool false, .pointer none]) := ⟨Tryz.underlying42, by kernel_rfl, rfl, by decide⟩
set_option maxRecDepth 100000 in
set_option maxHeartbeats 2000000 in
theorem qnames_len (s : ByteArray) (w : World) (ht : Tab w) (h1 : 100 < s.size) : Calls Tryz.prog 8 #[.string s] w fun e w' => e = .returned (.bool true) ∧ Bel w.heap.size w w' := by
  have M := Lib.hid (Own.start [] w (fun _ => True) fun _ _ => trivial)
  have HT := Lib.hid ht
  clear ht
  have h1i : (100 : Int) < (s.size : Int) := by omega
  go_enter Tryz.func8, Tryz.ntmps8
  go_wp2_with (go_at_call 16; (with_reducible refine (awake18 _ (HT.out.bel M.out.bel0 (Nat.le_refl _))).mono ?_); rintro e w' ⟨rfl, hb⟩; replace M := Lib.hid (M.out.bel hb); clear hb)
  go_ret
  exact ⟨rfl, M.out.bel0⟩
set_option maxRecDepth 100000 in
set_option maxHeartbeats 2000000 in
theorem qnames_no (s : ByteArray) (w : World) (ht : Tab w) (h1 : s.size ≤ 100) (hr : rightL s.data.toList = false) : Calls Tryz.prog 8 #[.string s] w fun e w' => e = .returned (.bool true) ∧ Bel w.heap.size w w' := by
  have M := Lib.hid (Own.start [] w (fun _ => True) fun _ _ => trivial)
  have HT := Lib.hid ht
  clear ht
  have HR := Lib.hid hr
  clear hr
  go_enter Tryz.func8, Tryz.ntmps8
  go_wp2_with (first | (go_at_call 16; (with_reducible refine (awake18 _ (HT.out.bel M.out.bel0 (Nat.le_refl _))).mono ?_); rintro e w' ⟨rfl, hb⟩; replace M := Lib.hid (M.out.bel hb); clear hb) | (go_at_call 20; (with_reducible refine (rright_any s false _ (by omega) HR.out).mono ?_); rintro e w' ⟨rfl, hb⟩; replace M := Lib.hid (M.out.bel hb); clear hb))
  go_ret
  exact ⟨rfl, M.out.bel0⟩
set_option maxRecDepth 100000 in
set_option maxHeartbeats 2000000 in
theorem qnames_ok (s : ByteArray) (w : World) (ht : Tab w) (h1 : s.size ≤ 100) (hr : rightL s.data.toList = true) : Calls Tryz.prog 8 #[.string s] w fun e w' => e = .returned (.bool true) ∧ Bel w.heap.size w w' := by
  have M := Lib.hid (Own.start [] w (fun _ => True) fun _ _ => trivial)
  have HT := Lib.hid ht
  clear ht
  obtain ⟨X, hX⟩ : ∃ X, txtL 39 s.data.toList = X := ⟨_, rfl⟩
  have hp : parseT true (36 :: 91 :: (txtL 39 s.data.toList ++ [93])) = .ok (nmP s.data.toList) := nm_back true hr (by rw [len_toList]; exact h1)
  have hXl := txt_len s.data.toList
  rw [hX, len_toList] at hXl
  rw [hX] at hp
  replace hXl : X.length ≤ 900 := by omega
  have HR := Lib.hid hr
  have h1i : decide ((100 : Int) < (s.size : Int)) = false := by simp; omega
  have HX := Lib.hid hX
  have HP := Lib.hid hp
  clear hr hX hp
  go_enter Tryz.func8, Tryz.ntmps8
  go_wp2_with (first | (go_at_call 16; (with_reducible refine (awake18 _ (HT.out.bel M.out.bel0 (Nat.le_refl _))).mono ?_); rintro e w' ⟨rfl, hb⟩; replace M := Lib.hid (M.out.bel hb); clear hb) | (go_at_call 20; (with_reducible refine (rright_any s true _ (by omega) HR.out).mono ?_); rintro e w' ⟨rfl, hb⟩; replace M := Lib.hid (M.out.bel hb); clear hb) | ((with_reducible refine g_bs 42 21 ?_); refine l_bs SL_sSl (cs := #[.int .i64 0, .string s, .int .i64 0, .int .i64 0, .int .i64 0, .int .i64 0, .bool false, .bool false, .pointer none]) (by kernel_rfl) M.out ?_; clear M; intro g21 w' hg21 M) | ((with_reducible refine g_bs 35 23 ?_); refine l_bs SL_sGg (cs := #[.bool false, .slice (some ⟨g21, 0, none⟩) 1 1]) (by kernel_rfl) M.out ?_; clear M; intro g23 w' hg23 M) | (go_at_call 18; (with_reducible refine (shownm s _ h1 HR.out HX.out (HT.out.bel M.out.bel0 (Nat.le_refl _)) (M.out.blk (g23, 44, #[.bool false, .slice (some ⟨g21, 0, none⟩) 1 1]) (by simp)) (M.out.blk (g21, 47, #[.int .i64 0, .string s, .int .i64 0, .int .i64 0, .int .i64 0, .int .i64 0, .bool false, .bool false, .pointer none]) (by simp))).mono ?_); rintro e w' ⟨rfl, hb⟩; replace M := Lib.hid (M.out.bel hb); clear hb) | (go_at_call 17; (with_reducible refine (nm_parse _ hXl HP.out).mono ?_); rintro e w' ⟨b1, o1, b2, o2, c1, c2, rfl, hsg, hb⟩; have Mn := M.out.addK (G := fun K y => NmC s b1 o1 b2 o2 c2 K y) (fun h hk => NmC.keep h hk) hb hsg; replace M := Lib.hid Mn; clear Mn hb hsg) | (go_at_call 21; (with_reducible refine (rbetw39 s _ h1 HX.out).mono ?_); rintro e w' ⟨rfl, hb⟩; replace M := Lib.hid (M.out.bel hb); clear hb) | ((with_reducible refine g_cat ?_); refine l_cat rfl rfl (by simp only [List.length_append, List.length_cons, List.length_nil]; omega) ?_) | ((with_reducible refine g_al 37 4 ?_); refine l_al F_Path M.out ?_; clear M; intro g4 w' hg4 M) | ((with_reducible refine g_al 31 5 ?_); refine l_al F_Flq M.out ?_; clear M; intro g5 w' hg5 M) | ((with_reducible refine g_st 37 ?_); refine l_st F_Path rfl rfl M.out (by repeat constructor) (by exact rfl) (by exact rfl) (by exact rfl) ?_; clear M; intro w' M) | ((with_reducible refine g_st 31 ?_); refine l_st F_Flq rfl rfl M.out (by repeat constructor) (by exact rfl) (by exact rfl) (by exact rfl) ?_; clear M; intro w' M) | ((with_reducible refine q_gl 31 ?_); refine q_ldS F_Flq rfl rfl M.out (by repeat constructor) (by exact rfl) ?_) | ((with_reducible refine q_gl 35 ?_); refine q_ld1g O_sSeg rfl rfl M.out (by repeat constructor) (by exact rfl) ?_) | ((with_reducible refine q_gl 42 ?_); refine q_ldc O_sSel rfl rfl (M.out.now.2.2.2.1) ?_) | ((with_reducible refine q_gl 9 ?_); refine q_ldc O_str rfl rfl (M.out.now.2.2.2.2.2) ?_) | ((with_reducible refine q_gl 3 ?_); refine q_ldc O_int rfl rfl (M.out.now.2.2.2.2.1) ?_))
  go_ret
  exact ⟨rfl, M.out.bel0⟩
theorem qnames_any (s : ByteArray) (w : World) (ht : Tab w) (_ : s.size ≤ maxLen) : Calls Tryz.prog 8 #[.string s] w fun e w' => e = .returned (.bool true) ∧ Bel w.heap.size w w' := by
  by_cases h1 : s.size ≤ 100
  · cases hr : rightL s.data.toList with
    | true => exact qnames_ok s w ht h1 hr
    | false => exact qnames_no s w ht h1 hr
  · exact qnames_len s w ht (by omega)


end
/- The row's last step where of the world behind the call 'Bel' is known. -/
section
open Go.RowKit Go.WideShapes Go.ChangeShapes

theorem Bel.frame {W W' : World} (h : Bel W.heap.size W W') (may : MemPlace → Prop) : W.keptBut W' may := by
  refine ⟨h.os, h.output, fun i hi => ?_⟩
  rw [h.block i hi]
  split <;> simp_all

section
variable {H : Type} {enc : TypeId × Value → H} {P : Program}
theorem post_of_bel {f : Func} {s : ChangeSpec} {apart fresh handsOn again : Bool} {W W' : World} {args : Array Value} {v : Value} {ds gs : List (DataW H)} {before pa pv : List MemPlace}
    (hW : DataW.Whole enc P f.params.toList s.vars apart W args.toList ds gs before)
    (hres : ∀ (b : Nat) (sp : Nat → Bool) (hd : Bool), DataW.TrodAll enc P W' b sp hd f.resultTypes.toList (v.resultList f.resultTypes.size) (s.fn H (ds ++ gs)).results [])
    (hargs : ∀ sp : Nat → Bool, (∀ p ∈ before, sp p.block = true) → DataW.TrodAll enc P W' 0 sp true f.params.toList args.toList (s.fn H (ds ++ gs)).args pa)
    (hvars : ∀ sp : Nat → Bool, (∀ p ∈ before, sp p.block = true) → DataW.TrodVars enc P W' sp s.vars (s.fn H (ds ++ gs)).vars pv)
    (hps : before = pa ++ pv) (hb : Bel W.heap.size W W')
    (hok : ∀ (j : Nat) (t : TypeId) (r : Value), f.resultTypes[j]? = some t → (v.resultList f.resultTypes.size)[j]? = some r → Value.okWide P W' .any 0 t r) :
    s.post enc P f apart fresh handsOn again W args v W' := by
  have hlt : ∀ p ∈ before, p.block < W.heap.size := fun p hp => hW.lt p hp
  have hold : ∀ p ∈ before, (fun b => decide (b < W.heap.size)) p.block = true := fun p hp => by simpa using hlt p hp
  refine ⟨ds, gs, before, [], pa, pv, hW, hres _ _ _, hargs _ hold, hvars _ hold, World.keptBut_mono (fun p hp => ⟨hp, ?_⟩) (hb.frame (· ∈ before)), fun _ => ?_⟩
  · rw [hps, List.mem_append] at hp
    exact Or.inr hp
  · obtain ⟨_, _, _, _, _, hz, hn⟩ := hW
    refine ⟨hok, _, _, ([] ++ pa) ++ pv, ⟨[] ++ pa, pv, trodAll_append (hargs _ (fun _ _ => rfl)) (hres _ _ _), hvars _ (fun _ _ => rfl), rfl, ?_, ?_⟩, ?_⟩
    · intro b off hp
      have hin : MemPlace.cell b off ∈ before := by rw [hps]; simpa using hp
      rw [hb.frozen (hlt _ hin)]
      exact hz b off hin
    · intro ha
      have := hn ha
      rw [hps] at this
      simpa using this
    · intro p hp _
      rw [hps]
      simpa using hp
end

theorem own : ownKnob Tryz.prog.godebug = none := by kernel_rfl

end
/- The rows' common part: the library's tables as they are laid (the heap laid by the kit's law). -/
section
open Go.ChangeShapes Go.WideShapes Go.ChangeAt Go.RowKit

def laid5 : List (String × DataW Unit) := [("math/bits.deBruijn32tab", Rows.laid_math_bits_deBruijn32tab), ("math/bits.deBruijn64tab", Rows.laid_math_bits_deBruijn64tab), ("internal/strconv.uint64pow10", Rows.laid_internal_strconv_uint64pow10), ("unicode/utf8.acceptRanges", Rows.laid_unicode_utf8_acceptRanges), ("unicode/utf8.first", Rows.laid_unicode_utf8_first)]
/-- The heap with the tables laid meets the condition. -/
theorem door_met (os : Os) (args : Array Value) : laidMetH Tryz.prog laid5 ((World.laidAll Tryz.prog os laid5).forCall (fun _ _ => 0) ⟨#[], args, []⟩).memory := by
  rw [MakeChecks.laidMetH_plain _ _ _ (by kernel_rfl)]
  exact laidMet_laidAll _ (by kernel_rfl) (by kernel_rfl)
theorem door_shaped (os : Os) : (World.laidAll Tryz.prog os laid5).Shaped Tryz.prog := World.shaped_of_ZipB (by kernel_rfl) (by kernel_rfl)
theorem tab_g : ∃ g, Tryz.prog.globalNamed "internal/strconv.uint64pow10" = some g ∧ (Tryz.prog.globals[g]?).map (·.type) = some 199 := ⟨3, by kernel_rfl, by kernel_rfl⟩
theorem tab_cells1 : Tryz.prog.cellsOf 193 = 1 := by kernel_rfl
theorem tab_cells20 : Tryz.prog.cellsOf 199 = 20 := by kernel_rfl
/-- What the condition gives the walk. -/
theorem tab_of_laid {W : World} (h : laidMetH Tryz.prog laid5 W) : Tab W := by
  rw [MakeChecks.laidMetH_plain _ _ _ (by kernel_rfl)] at h
  have h : laidMet Tryz.prog laid5 W := h
  obtain ⟨g, hg, hty⟩ := tab_g
  have h2 : laidMet Tryz.prog (("internal/strconv.uint64pow10", Lib.tabData .u64 Lib.pow10Tab) :: [("unicode/utf8.acceptRanges", Rows.laid_unicode_utf8_acceptRanges), ("unicode/utf8.first", Rows.laid_unicode_utf8_first)]) W := h.tail.tail
  exact Lib.tabIs_of_head hg hty Tryz.underlying199 Tryz.underlying193 tab_cells1 tab_cells20 h2

end

end Go.Proofs.YtpcbcodmocmilaaGreatDoor
