/- laceworkref18: sel, kids, side (printed by gen_ec.py). -/
import Derived.Test.YtpcbcodmocmilaaDoorEb
import Derived.Test.YtpcbcodmocmilaaDoorZp
namespace Go.Proofs.YtpcbcodmocmilaaDoor
open Go.RowKit

theorem ret_bs {a b : List UInt8} (h : a = b) : Ending.returned (.string (bs a)) = .returned (.string (bs b)) := by rw [h]
theorem rbn_any (m : UInt8) (n : Int) (hn : (m.toNat : Int) = n) (s : ByteArray) (w : World) (hs : s.size ≤ 100000000) : Calls Tryd.prog 31 #[.string s, .int .u8 n] w fun r w' => r = .returned (.string (bs (txtL m s.data.toList))) ∧ Bel w.heap.size w w' := by
  subst hn; exact rbetw_any m s w hs
/-- An expression at cells is written by the reference. -/
def RKW (w0 : World) (E : ExprT → List UInt8) (e : ExprT) (cs : List Value) : Prop := ∀ w, Bel w0.heap.size w0 w → (E e).length ≤ 800000000 → Calls Tryd.prog 33 #[.agg cs.toArray] w fun r w' => r = .returned (.string (bs (E e))) ∧ Bel w.heap.size w w'
def REW (w0 : World) (E : ExprT → List UInt8) (e : ExprT) : Prop := ∀ (m : Nat) (cs : List Value), ExR (Lw w0) m w0 cs e → RKW w0 E e cs
section
variable {N : Nat} {W : ExprT → Prop} {E : ExprT → List UInt8}

set_option maxRecDepth 100000 in
set_option maxHeartbeats 2000000 in
theorem zsel_nm (s : List UInt8) (hs : s.length ≤ 100000000) (w : World) : Calls Tryd.prog 19 #[.agg #[.int .i64 0, .string (bs s), .int .i64 0, .int .i64 0, .int .i64 0, .int .i64 0, .bool false, .bool false, .pointer none]] w (fun r w' => r = .returned (.string (bs (txtL 39 s))) ∧ Bel w.heap.size w w') := by
  have M := Lib.hid (Own.start [] w (fun _ => True) fun _ _ => trivial)
  go_enter Tryd.func19, Tryd.ntmps19
  go_wp2_with (first | ((with_reducible refine g_bx 70 1 ?_); refine l_bx rfl M.out ?_; clear M; intro g1 w' hg1 M; replace M := Lib.hid M.out.freeze) | ((with_reducible refine g_ld 3 ?_); refine l_l1b O_int rfl (M.out.now.2) (rfl) ?_) | ((with_reducible refine g_ld 9 ?_); refine l_l1b O_str rfl (M.out.now.2) (rfl) ?_) | (go_at_call 31; (with_reducible refine (rbn_any 39 39 rfl (bs s) _ (by rw [bs_size2]; omega)).mono ?_); rintro e w' ⟨rfl, hb⟩; rw [bs_list]; replace M := Lib.hid (M.out.bel hb); clear hb))
  go_ret
  exact ⟨rfl, M.out.bel0⟩
set_option maxRecDepth 100000 in
set_option maxHeartbeats 2000000 in
theorem zsel_wild  (w : World) : Calls Tryd.prog 19 #[.agg #[.int .i64 1, .string ⟨#[]⟩, .int .i64 0, .int .i64 0, .int .i64 0, .int .i64 0, .bool false, .bool false, .pointer none]] w (fun r w' => r = .returned (.string (bs ([42]))) ∧ Bel w.heap.size w w') := by
  have M := Lib.hid (Own.start [] w (fun _ => True) fun _ _ => trivial)
  go_enter Tryd.func19, Tryd.ntmps19
  go_wp2_with (first | ((with_reducible refine g_bx 70 1 ?_); refine l_bx rfl M.out ?_; clear M; intro g1 w' hg1 M; replace M := Lib.hid M.out.freeze) | ((with_reducible refine g_ld 3 ?_); refine l_l1b O_int rfl (M.out.now.2) (rfl) ?_))
  go_ret
  exact ⟨rfl, M.out.bel0⟩
set_option maxRecDepth 100000 in
set_option maxHeartbeats 2000000 in
theorem zsel_idx (n : Int) (hn : okN n) (w : World) : Calls Tryd.prog 19 #[.agg #[.int .i64 2, .string ⟨#[]⟩, .int .i64 n, .int .i64 0, .int .i64 0, .int .i64 0, .bool false, .bool false, .pointer none]] w (fun r w' => r = .returned (.string (bs (intL n))) ∧ Bel w.heap.size w w') := by
  have M := Lib.hid (Own.start [] w (fun _ => True) fun _ _ => trivial)
  go_enter Tryd.func19, Tryd.ntmps19
  go_wp2_with (first | ((with_reducible refine g_bx 70 1 ?_); refine l_bx rfl M.out ?_; clear M; intro g1 w' hg1 M; replace M := Lib.hid M.out.freeze) | ((with_reducible refine g_ld 3 ?_); refine l_l1b O_int rfl (M.out.now.2) (rfl) ?_) | ((with_reducible refine g_ld 2 ?_); refine l_l1b O_i64 rfl (M.out.now.2) (rfl) ?_) | (go_at_call 32; (with_reducible refine (rint_any n hn _).mono ?_); rintro e w' ⟨rfl, hb⟩; replace M := Lib.hid (M.out.bel hb); clear hb))
  go_ret
  exact ⟨rfl, M.out.bel0⟩
set_option maxRecDepth 100000 in
set_option maxHeartbeats 2000000 in
theorem zsel_slice (a b c : Int) (ha hb : Bool) (h1 : okN a) (h2 : okN b) (h3 : okN c) (w : World) : Calls Tryd.prog 19 #[.agg #[.int .i64 3, .string ⟨#[]⟩, .int .i64 0, .int .i64 a, .int .i64 b, .int .i64 c, .bool ha, .bool hb, .pointer none]] w (fun r w' => r = .returned (.string (bs (sliceW ⟨3, [], 0, a, b, c, ha, hb, none⟩))) ∧ Bel w.heap.size w w') := by
  have M := Lib.hid (Own.start [] w (fun _ => True) fun _ _ => trivial)
  have hla := intL_len h1
  have hlb := intL_len h2
  have hlc := intL_len h3
  by_cases hc : c = 1
  · subst hc
    cases ha <;> cases hb
    all_goals
      go_enter Tryd.func19, Tryd.ntmps19
      go_wp2_with (first | ((with_reducible refine g_bx 70 1 ?_); refine l_bx rfl M.out ?_; clear M; intro g1 w' hg1 M; replace M := Lib.hid M.out.freeze) | ((with_reducible refine g_ld 3 ?_); refine l_l1b O_int rfl (M.out.now.2) (rfl) ?_) | ((with_reducible refine g_ld 4 ?_); refine l_l1b O_bool rfl (M.out.now.2) (rfl) ?_) | ((with_reducible refine g_ld 2 ?_); refine l_l1b O_i64 rfl (M.out.now.2) (rfl) ?_) | (go_at_call 32; (with_reducible refine (rint_any a h1 _).mono ?_); rintro e w' ⟨rfl, hb⟩; replace M := Lib.hid (M.out.bel hb); clear hb) | (go_at_call 32; (with_reducible refine (rint_any b h2 _).mono ?_); rintro e w' ⟨rfl, hb⟩; replace M := Lib.hid (M.out.bel hb); clear hb) | ((with_reducible refine g_cat ?_); refine l_cat rfl rfl (by first | omega | (simp <;> omega)) ?_))
      go_ret
      exact ⟨ret_bs (by simp [sliceW]), M.out.bel0⟩
  · have hc' : (c != 1) = true := by simpa using hc
    cases ha <;> cases hb
    all_goals
      go_enter Tryd.func19, Tryd.ntmps19
      go_wp2_with (first | ((with_reducible refine g_bx 70 1 ?_); refine l_bx rfl M.out ?_; clear M; intro g1 w' hg1 M; replace M := Lib.hid M.out.freeze) | ((with_reducible refine g_ld 3 ?_); refine l_l1b O_int rfl (M.out.now.2) (rfl) ?_) | ((with_reducible refine g_ld 4 ?_); refine l_l1b O_bool rfl (M.out.now.2) (rfl) ?_) | ((with_reducible refine g_ld 2 ?_); refine l_l1b O_i64 rfl (M.out.now.2) (rfl) ?_) | (go_at_call 32; (with_reducible refine (rint_any a h1 _).mono ?_); rintro e w' ⟨rfl, hb⟩; replace M := Lib.hid (M.out.bel hb); clear hb) | (go_at_call 32; (with_reducible refine (rint_any b h2 _).mono ?_); rintro e w' ⟨rfl, hb⟩; replace M := Lib.hid (M.out.bel hb); clear hb) | (go_at_call 32; (with_reducible refine (rint_any c h3 _).mono ?_); rintro e w' ⟨rfl, hb⟩; replace M := Lib.hid (M.out.bel hb); clear hb) | ((with_reducible refine g_cat ?_); refine l_cat rfl rfl (by first | omega | (simp <;> omega)) ?_))
      go_ret
      exact ⟨ret_bs (by simp [sliceW, hc]), M.out.bel0⟩
set_option maxRecDepth 100000 in
set_option maxHeartbeats 2000000 in
theorem zsel_filt (w0 w : World) (hbw : Bel w0.heap.size w0 w) (e : ExprT) (b off : Nat) (kc : List Value) (hb : b < w0.heap.size) (hkn : kc.length = 17) (hra : w0.rangeAt b off kc) (hk : RKW w0 E e kc) (hl : (E e).length ≤ 800000000) : Calls Tryd.prog 19 #[.agg #[.int .i64 4, .string ⟨#[]⟩, .int .i64 0, .int .i64 0, .int .i64 0, .int .i64 0, .bool false, .bool false, .pointer (some ⟨b, off, none⟩)]] w (fun r w' => r = .returned (.string (bs (63 :: E e))) ∧ Bel w.heap.size w w') := by
  have M := Lib.hid (Own.start [] w (fun _ => True) fun _ _ => trivial)
  have HB := Lib.hid hbw
  clear hbw
  have HBT := Lib.hid hb
  have HKN := Lib.hid hkn
  have HRA := Lib.hid hra
  unfold RKW at hk
  have HK := Lib.hid hk
  clear hb hkn hra hk
  go_enter Tryd.func19, Tryd.ntmps19
  go_wp2_with (first | ((with_reducible refine g_bx 70 1 ?_); refine l_bx rfl M.out ?_; clear M; intro g1 w' hg1 M; replace M := Lib.hid M.out.freeze) | ((with_reducible refine g_ld 3 ?_); refine l_l1b O_int rfl (M.out.now.2) (rfl) ?_) | ((with_reducible refine g_ld 68 ?_); refine l_l1b O_pex rfl (M.out.now.2) (rfl) ?_) | ((with_reducible refine g_ld 97 ?_); refine l_ldf F_Ex rfl (fun j v hv => (World.cell?_of_block ((HB.out.next M.out.bel0).block b HBT.out)).trans (HRA.out j v hv)) HKN.out ?_) | (go_at_call 33; (with_reducible refine (HK.out _ (HB.out.next M.out.bel0) hl).mono ?_); rintro e w' ⟨rfl, hb⟩; replace M := Lib.hid (M.out.bel hb); clear hb) | ((with_reducible refine g_cat ?_); refine l_cat rfl rfl (by first | omega | (simp <;> omega)) ?_))
  go_ret
  exact ⟨rfl, M.out.bel0⟩
theorem zsel_any (hN : N ≤ 100000000) (w0 w : World) (hbw : Bel w0.heap.size w0 w) (x : SelT) (q : Option Addr) (m : Nat) (hx : WfS (SS N) W x) (hp : PtrG (Lw w0) (ExR (Lw w0) m w0) w0 (.pointer q) x.f) (hE : ∀ e, W e → REW w0 E e) (hl : (selW E x).length ≤ 800000000) : Calls Tryd.prog 19 #[.agg (selL x (.pointer q)).toArray] w (fun r w' => r = .returned (.string (bs (selW E x))) ∧ Bel w.heap.size w w') := by
  cases hx with
  | nm s a =>
    rw [show selW E ⟨0, s, 0, 0, 0, 0, false, false, none⟩ = txtL 39 s from by unfold selW; simp]
    cases hp
    exact zsel_nm s (Nat.le_trans a.1 hN) w
  | wild =>
    rw [show selW E ⟨1, [], 0, 0, 0, 0, false, false, none⟩ = [42] from by unfold selW; simp]
    cases hp
    exact zsel_wild w
  | idx n a =>
    rw [show selW E ⟨2, [], n, 0, 0, 0, false, false, none⟩ = intL n from by unfold selW; simp]
    cases hp
    exact zsel_idx n a w
  | slice a b c ha hb a1 a2 a3 a4 a5 =>
    rw [show selW E ⟨3, [], 0, a, b, c, ha, hb, none⟩ = sliceW ⟨3, [], 0, a, b, c, ha, hb, none⟩ from by unfold selW; simp]
    cases hp
    exact zsel_slice a b c ha hb a1 a2 a3 w
  | filt e a =>
    rw [show selW E ⟨4, [], 0, 0, 0, 0, false, false, some e⟩ = 63 :: E e from by unfold selW; simp] at hl ⊢
    obtain ⟨b, off, cs, he, hK, hb, hn, hc, hr⟩ := hp
    cases he
    exact zsel_filt w0 w hbw e b off cs hb hn hc (hE e a m cs hr) (by simp at hl; omega)
set_option maxRecDepth 100000 in
set_option maxHeartbeats 2000000 in
theorem zkids_any (w0 w : World) (hbw : Bel w0.heap.size w0 w) (m : Nat) (kids : List ExprT) (sep : List UInt8) (most : Int) (f : ExprT → Bool) (hf : ∀ k ∈ kids, decide (k.kind ≤ most) = f k) (kv : Value) (hrow : RowG (Lw w0) 17 (ExR (Lw w0) m w0) w0 kv kids) (hE : ∀ e ∈ kids, REW w0 E e) (hs : sep.length ≤ 10) (hl : (joinW sep (fun k => roundW E (f k) k) kids).length ≤ 800000000) : Calls Tryd.prog 49 #[kv, .string (bs sep), .int .i64 most] w (fun r w' => r = .returned (.string (bs (joinW sep (fun k => roundW E (f k) k) kids))) ∧ Bel w.heap.size w w') := by
  obtain ⟨A, cap, rfl, hsl, hG⟩ := RowG.get hrow
  unfold REW at hE
  have M := Lib.hid (Own.start [] w (fun _ => True) fun _ _ => trivial)
  have HB := Lib.hid hbw
  clear hbw
  have HG := Lib.hid hG
  have HEK := Lib.hid hE
  have HF0 := Lib.hid hf
  clear hG hE hrow hf
  go_enter Tryd.func49, Tryd.ntmps49
  go_wp2
  go_loopg [7, 8] kids.length (fun gk sv kk wr => ∃ Kd Kr : List ExprT, gk = Kr.length ∧ Hid (kids = Kd ++ Kr) ∧ kk = .int .i64 (Kd.length : Nat) ∧ sv = .string (bs (joinW sep (fun k => roundW E (f k) k) Kd)) ∧ Hid (Own [] w wr [] [] (fun _ => True)))
  case atStart => exact ⟨[], kids, rfl, Lib.hid rfl, rfl, rfl, M⟩
  case round =>
    clear M
    obtain ⟨Kd, Kr0, hgk, HD, rfl, rfl, M⟩ := hrel
    have HGK := Lib.hid hgk
    clear hgk
    cases Kr0 with
    | cons e Kr =>
      have HI := Lib.hid (show kids[Kd.length]? = some e from by rw [HD.out, List.getElem?_append_right (Nat.le_refl _), Nat.sub_self]; rfl)
      obtain ⟨b, off, kc, hqA, hbT, hkn, hra, hex⟩ := HG.out _ _ HI.out
      subst hqA
      obtain ⟨-, -, hk0⟩ := exR_cells hex
      have hkw := HEK.out e (List.mem_of_getElem? HI.out) m kc hex
      unfold RKW at hkw
      have hfe := HF0.out e (List.mem_of_getElem? HI.out)
      have HKN := Lib.hid hkn
      have HK0C := Lib.hid hk0
      have HKW := Lib.hid hkw
      have HBT := Lib.hid hbT
      have hlt : (Kd.length : Int) < (kids.length : Int) := by have := (List.getElem?_eq_some_iff.1 HI.out).1; omega
      have HJ := Lib.hid (joinW_snoc sep (fun k => roundW E (f k) k) e Kd)
      have hjl : (joinW sep (fun k => roundW E (f k) k) (Kd ++ [e])).length ≤ 800000000 := by
        have h1 : (joinW sep (fun k => roundW E (f k) k) (Kd ++ [e])).length ≤ (joinW sep (fun k => roundW E (f k) k) kids).length := by rw [HD.out, show Kd ++ e :: Kr = (Kd ++ [e]) ++ Kr from by simp]; exact joinW_mono _ _ _ _
        omega
      rw [HJ.out, List.length_append] at hjl
      have hel : (E e).length ≤ 800000000 := by
        have h1 : (E e).length ≤ (roundW E (f e) e).length := by unfold roundW; split <;> simp; omega
        omega
      have hel2 : (E e).length ≤ 800000000 := by omega
      have HYL := Lib.hid hjl
      obtain ⟨p, hp⟩ : ∃ p, Kd.length = p := ⟨_, rfl⟩
      rw [hp] at hlt hra
      have HRA := Lib.hid hra
      have HK := Lib.hid hp
      rw [hp]
      obtain ⟨YJ, hYJ⟩ : ∃ YJ, joinW sep (fun k => roundW E (f k) k) Kd = YJ := ⟨_, rfl⟩
      have hyl : YJ.length ≤ 800000000 := by
        have h1 : YJ.length ≤ (joinW sep (fun k => roundW E (f k) k) kids).length := by rw [← hYJ, HD.out]; exact joinW_mono _ _ _ _
        omega
      rw [hYJ]
      have HYJ := Lib.hid hYJ
      clear hra hbT hkn hk0 hkw hex hp hYJ hjl
      by_cases hm : e.kind ≤ most
      · have HF := Lib.hid (show f e = true from by rw [← hfe]; simpa using hm)
        clear hfe
        by_cases hk0 : p = 0
        · have hd1 : decide (0 < p) = false := by simp; omega
          have hd2 : decide ((0 : Int) < (p : Int)) = false := by simp; omega
          have HK0 := Lib.hid hk0
          have HY0 := Lib.hid (show YJ = [] from by have := List.eq_nil_of_length_eq_zero (HK.out.trans hk0); rw [← HYJ.out, this]; rfl)
          clear hk0
          go_wp2_with (first | ((with_reducible refine g_ld 97 ?_); refine l_ldf F_Ex rfl (fun j v hv => (World.cell?_of_block ((HB.out.next M.out.bel0).block b HBT.out)).trans (HRA.out j v hv)) HKN.out ?_) | ((with_reducible refine g_ld 3 ?_); refine l_ldc O_int rfl ((World.cell?_of_block ((HB.out.next M.out.bel0).block b HBT.out)).trans (HRA.out 0 _ HK0C.out)) ?_) | (go_at_call 33; (with_reducible refine (HKW.out _ (HB.out.next M.out.bel0) hel2).mono ?_); rintro e w' ⟨rfl, hb⟩; replace M := Lib.hid (M.out.bel hb); clear hb) | ((with_reducible refine g_cat ?_); refine l_cat rfl rfl (by first | omega | (simp <;> omega)) ?_))
          go_roundg Kr.length
          case measure => first | (rw [HGK.out]; simp; done) | (simp; done)
          case rel => exact ⟨Kd ++ [e], Kr, rfl, Lib.hid (by rw [HD.out]; simp), by rw [List.length_append, HK.out]; go_num, by
                          rw [HJ.out, HK.out, if_pos HK0.out, List.nil_append]
                          rw [HY0.out]
                          exact congrArg (fun l => Value.string (bs l)) (by simp [roundW, HF.out]), M⟩
        · have hd1 : decide (0 < p) = true := by simp; omega
          have hd2 : decide ((0 : Int) < (p : Int)) = true := by simp; omega
          have HK0 := Lib.hid hk0
          clear hk0
          go_wp2_with (first | ((with_reducible refine g_ld 97 ?_); refine l_ldf F_Ex rfl (fun j v hv => (World.cell?_of_block ((HB.out.next M.out.bel0).block b HBT.out)).trans (HRA.out j v hv)) HKN.out ?_) | ((with_reducible refine g_ld 3 ?_); refine l_ldc O_int rfl ((World.cell?_of_block ((HB.out.next M.out.bel0).block b HBT.out)).trans (HRA.out 0 _ HK0C.out)) ?_) | (go_at_call 33; (with_reducible refine (HKW.out _ (HB.out.next M.out.bel0) hel2).mono ?_); rintro e w' ⟨rfl, hb⟩; replace M := Lib.hid (M.out.bel hb); clear hb) | ((with_reducible refine g_cat ?_); refine l_cat rfl rfl (by first | omega | (simp <;> omega)) ?_))
          go_roundg Kr.length
          case measure => first | (rw [HGK.out]; simp; done) | (simp; done)
          case rel => exact ⟨Kd ++ [e], Kr, rfl, Lib.hid (by rw [HD.out]; simp), by rw [List.length_append, HK.out]; go_num, by
                          rw [HJ.out, HK.out, if_neg HK0.out, HYJ.out]
                          exact congrArg (fun l => Value.string (bs l)) (by simp [roundW, HF.out]), M⟩
      · have HF := Lib.hid (show f e = false from by rw [← hfe]; simpa using hm)
        clear hfe
        by_cases hk0 : p = 0
        · have hd1 : decide (0 < p) = false := by simp; omega
          have hd2 : decide ((0 : Int) < (p : Int)) = false := by simp; omega
          have HK0 := Lib.hid hk0
          have HY0 := Lib.hid (show YJ = [] from by have := List.eq_nil_of_length_eq_zero (HK.out.trans hk0); rw [← HYJ.out, this]; rfl)
          clear hk0
          go_wp2_with (first | ((with_reducible refine g_ld 97 ?_); refine l_ldf F_Ex rfl (fun j v hv => (World.cell?_of_block ((HB.out.next M.out.bel0).block b HBT.out)).trans (HRA.out j v hv)) HKN.out ?_) | ((with_reducible refine g_ld 3 ?_); refine l_ldc O_int rfl ((World.cell?_of_block ((HB.out.next M.out.bel0).block b HBT.out)).trans (HRA.out 0 _ HK0C.out)) ?_) | (go_at_call 33; (with_reducible refine (HKW.out _ (HB.out.next M.out.bel0) hel2).mono ?_); rintro e w' ⟨rfl, hb⟩; replace M := Lib.hid (M.out.bel hb); clear hb) | ((with_reducible refine g_cat ?_); refine l_cat rfl rfl (by first | omega | (simp <;> omega)) ?_))
          go_roundg Kr.length
          case measure => first | (rw [HGK.out]; simp; done) | (simp; done)
          case rel => exact ⟨Kd ++ [e], Kr, rfl, Lib.hid (by rw [HD.out]; simp), by rw [List.length_append, HK.out]; go_num, by
                          rw [HJ.out, HK.out, if_pos HK0.out, List.nil_append]
                          rw [HY0.out]
                          exact congrArg (fun l => Value.string (bs l)) (by simp [roundW, HF.out]), M⟩
        · have hd1 : decide (0 < p) = true := by simp; omega
          have hd2 : decide ((0 : Int) < (p : Int)) = true := by simp; omega
          have HK0 := Lib.hid hk0
          clear hk0
          go_wp2_with (first | ((with_reducible refine g_ld 97 ?_); refine l_ldf F_Ex rfl (fun j v hv => (World.cell?_of_block ((HB.out.next M.out.bel0).block b HBT.out)).trans (HRA.out j v hv)) HKN.out ?_) | ((with_reducible refine g_ld 3 ?_); refine l_ldc O_int rfl ((World.cell?_of_block ((HB.out.next M.out.bel0).block b HBT.out)).trans (HRA.out 0 _ HK0C.out)) ?_) | (go_at_call 33; (with_reducible refine (HKW.out _ (HB.out.next M.out.bel0) hel2).mono ?_); rintro e w' ⟨rfl, hb⟩; replace M := Lib.hid (M.out.bel hb); clear hb) | ((with_reducible refine g_cat ?_); refine l_cat rfl rfl (by first | omega | (simp <;> omega)) ?_))
          go_roundg Kr.length
          case measure => first | (rw [HGK.out]; simp; done) | (simp; done)
          case rel => exact ⟨Kd ++ [e], Kr, rfl, Lib.hid (by rw [HD.out]; simp), by rw [List.length_append, HK.out]; go_num, by
                          rw [HJ.out, HK.out, if_neg HK0.out, HYJ.out]
                          exact congrArg (fun l => Value.string (bs l)) (by simp [roundW, HF.out]), M⟩
    | nil =>
      obtain rfl : kids = Kd := by simpa using HD.out
      have hnl : ¬ (kids.length : Int) < (kids.length : Int) := by omega
      go_wp2
      go_ret
      exact ⟨rfl, M.out.bel0⟩
end

end Go.Proofs.YtpcbcodmocmilaaDoor
