/- laceworkref18: side, expr whole (printed by gen_ee.py). -/
import Derived.Test.YtpcbcodmocmilaaDoorEd
namespace Go.Proofs.YtpcbcodmocmilaaDoor
open Go.RowKit

theorem SL_sstr : SlF Tryd.prog 109 9 1 16 (.string ⟨#[]⟩) := ⟨Tryd.underlying109, by kernel_rfl, rfl, by decide⟩
section
variable {N : Nat} {W : ExprT → Prop} {E : ExprT → List UInt8}

set_option maxRecDepth 100000 in
set_option maxHeartbeats 2000000 in
theorem zside_null (v : Value) (w : World) : Calls Tryd.prog 50 #[.agg #[.bool true, .int .i64 0, .int .i64 0, .string ⟨#[]⟩, .bool false, v]] w (fun r w' => r = .returned (.string (bs ([110, 117, 108, 108]))) ∧ Bel w.heap.size w w') := by
  have M := Lib.hid (Own.start [] w (fun _ => True) fun _ _ => trivial)
  go_enter Tryd.func50, Tryd.ntmps50
  go_wp2_with (first | ((with_reducible refine g_bx 95 1 ?_); refine l_bx rfl M.out ?_; clear M; intro g1 w' hg1 M; replace M := Lib.hid M.out.freeze) | ((with_reducible refine g_ld 4 ?_); refine l_l1b O_bool rfl (M.out.now.2) (rfl) ?_) | ((with_reducible refine g_ld 3 ?_); refine l_l1b O_int rfl (M.out.now.2) (rfl) ?_) | ((with_reducible refine g_ld 2 ?_); refine l_l1b O_i64 rfl (M.out.now.2) (rfl) ?_) | ((with_reducible refine g_ld 9 ?_); refine l_l1b O_str rfl (M.out.now.2) (rfl) ?_))
  go_ret
  exact ⟨rfl, M.out.bel0⟩
set_option maxRecDepth 100000 in
set_option maxHeartbeats 2000000 in
theorem zside_tru (v : Value) (w : World) : Calls Tryd.prog 50 #[.agg #[.bool true, .int .i64 1, .int .i64 1, .string ⟨#[]⟩, .bool false, v]] w (fun r w' => r = .returned (.string (bs ([116, 114, 117, 101]))) ∧ Bel w.heap.size w w') := by
  have M := Lib.hid (Own.start [] w (fun _ => True) fun _ _ => trivial)
  go_enter Tryd.func50, Tryd.ntmps50
  go_wp2_with (first | ((with_reducible refine g_bx 95 1 ?_); refine l_bx rfl M.out ?_; clear M; intro g1 w' hg1 M; replace M := Lib.hid M.out.freeze) | ((with_reducible refine g_ld 4 ?_); refine l_l1b O_bool rfl (M.out.now.2) (rfl) ?_) | ((with_reducible refine g_ld 3 ?_); refine l_l1b O_int rfl (M.out.now.2) (rfl) ?_) | ((with_reducible refine g_ld 2 ?_); refine l_l1b O_i64 rfl (M.out.now.2) (rfl) ?_) | ((with_reducible refine g_ld 9 ?_); refine l_l1b O_str rfl (M.out.now.2) (rfl) ?_))
  go_ret
  exact ⟨rfl, M.out.bel0⟩
set_option maxRecDepth 100000 in
set_option maxHeartbeats 2000000 in
theorem zside_fls (v : Value) (w : World) : Calls Tryd.prog 50 #[.agg #[.bool true, .int .i64 1, .int .i64 0, .string ⟨#[]⟩, .bool false, v]] w (fun r w' => r = .returned (.string (bs ([102, 97, 108, 115, 101]))) ∧ Bel w.heap.size w w') := by
  have M := Lib.hid (Own.start [] w (fun _ => True) fun _ _ => trivial)
  go_enter Tryd.func50, Tryd.ntmps50
  go_wp2_with (first | ((with_reducible refine g_bx 95 1 ?_); refine l_bx rfl M.out ?_; clear M; intro g1 w' hg1 M; replace M := Lib.hid M.out.freeze) | ((with_reducible refine g_ld 4 ?_); refine l_l1b O_bool rfl (M.out.now.2) (rfl) ?_) | ((with_reducible refine g_ld 3 ?_); refine l_l1b O_int rfl (M.out.now.2) (rfl) ?_) | ((with_reducible refine g_ld 2 ?_); refine l_l1b O_i64 rfl (M.out.now.2) (rfl) ?_) | ((with_reducible refine g_ld 9 ?_); refine l_l1b O_str rfl (M.out.now.2) (rfl) ?_))
  go_ret
  exact ⟨rfl, M.out.bel0⟩
set_option maxRecDepth 100000 in
set_option maxHeartbeats 2000000 in
theorem zside_num (v : Value) (n : Int) (hn : okN n) (w : World) : Calls Tryd.prog 50 #[.agg #[.bool true, .int .i64 2, .int .i64 n, .string ⟨#[]⟩, .bool false, v]] w (fun r w' => r = .returned (.string (bs (intL n))) ∧ Bel w.heap.size w w') := by
  have M := Lib.hid (Own.start [] w (fun _ => True) fun _ _ => trivial)
  go_enter Tryd.func50, Tryd.ntmps50
  go_wp2_with (first | ((with_reducible refine g_bx 95 1 ?_); refine l_bx rfl M.out ?_; clear M; intro g1 w' hg1 M; replace M := Lib.hid M.out.freeze) | ((with_reducible refine g_ld 4 ?_); refine l_l1b O_bool rfl (M.out.now.2) (rfl) ?_) | ((with_reducible refine g_ld 3 ?_); refine l_l1b O_int rfl (M.out.now.2) (rfl) ?_) | ((with_reducible refine g_ld 2 ?_); refine l_l1b O_i64 rfl (M.out.now.2) (rfl) ?_) | ((with_reducible refine g_ld 9 ?_); refine l_l1b O_str rfl (M.out.now.2) (rfl) ?_) | (go_at_call 32; (with_reducible refine (rint_any n hn _).mono ?_); rintro e w' ⟨rfl, hb⟩; replace M := Lib.hid (M.out.bel hb); clear hb))
  go_ret
  exact ⟨rfl, M.out.bel0⟩
set_option maxRecDepth 100000 in
set_option maxHeartbeats 2000000 in
theorem zside_str (v : Value) (s : List UInt8) (hs : s.length ≤ 100000000) (w : World) : Calls Tryd.prog 50 #[.agg #[.bool true, .int .i64 3, .int .i64 0, .string (bs s), .bool false, v]] w (fun r w' => r = .returned (.string (bs (txtL 39 s))) ∧ Bel w.heap.size w w') := by
  have M := Lib.hid (Own.start [] w (fun _ => True) fun _ _ => trivial)
  go_enter Tryd.func50, Tryd.ntmps50
  go_wp2_with (first | ((with_reducible refine g_bx 95 1 ?_); refine l_bx rfl M.out ?_; clear M; intro g1 w' hg1 M; replace M := Lib.hid M.out.freeze) | ((with_reducible refine g_ld 4 ?_); refine l_l1b O_bool rfl (M.out.now.2) (rfl) ?_) | ((with_reducible refine g_ld 3 ?_); refine l_l1b O_int rfl (M.out.now.2) (rfl) ?_) | ((with_reducible refine g_ld 2 ?_); refine l_l1b O_i64 rfl (M.out.now.2) (rfl) ?_) | ((with_reducible refine g_ld 9 ?_); refine l_l1b O_str rfl (M.out.now.2) (rfl) ?_) | (go_at_call 31; (with_reducible refine (rbn_any 39 39 rfl (bs s) _ (by rw [bs_size2]; omega)).mono ?_); rintro e w' ⟨rfl, hb⟩; rw [bs_list]; replace M := Lib.hid (M.out.bel hb); clear hb))
  go_ret
  exact ⟨rfl, M.out.bel0⟩
set_option maxRecDepth 100000 in
set_option maxHeartbeats 2000000 in
theorem zside_path (hN : N ≤ 100000000) (w0 : World) (p : PathT) (v : Value) (m : Nat) (hp : WfP (SS N) W p) (hv : SegsG (Lw w0) (ExR (Lw w0) m w0) w0 v p.segs) (hE : ∀ e, W e → REW w0 E e) (hl : (pathW E p).length ≤ 800000000) (w : World) (hbw : Bel w0.heap.size w0 w) : Calls Tryd.prog 50 #[.agg #[.bool false, .int .i64 0, .int .i64 0, .string ⟨#[]⟩, .bool p.abs, v]] w (fun r w' => r = .returned (.string (bs (pathW E p))) ∧ Bel w.heap.size w w') := by
  have M := Lib.hid (Own.start [] w (fun _ => True) fun _ _ => trivial)
  have HB := Lib.hid hbw
  clear hbw
  have HP := Lib.hid hp
  have HV := Lib.hid hv
  have HE := Lib.hid hE
  clear hp hv hE
  go_enter Tryd.func50, Tryd.ntmps50
  go_wp2_with (first | ((with_reducible refine g_bx 95 1 ?_); refine l_bx rfl M.out ?_; clear M; intro g1 w' hg1 M; replace M := Lib.hid M.out.freeze) | ((with_reducible refine g_ld 4 ?_); refine l_l1b O_bool rfl (M.out.now.2) (rfl) ?_) | ((with_reducible refine g_ld 3 ?_); refine l_l1b O_int rfl (M.out.now.2) (rfl) ?_) | ((with_reducible refine g_ld 2 ?_); refine l_l1b O_i64 rfl (M.out.now.2) (rfl) ?_) | ((with_reducible refine g_ld 9 ?_); refine l_l1b O_str rfl (M.out.now.2) (rfl) ?_) | ((with_reducible refine g_ld 25 ?_); refine l_ldf F_Path rfl (range_own (o := 4) (n := 2) (M.out.now.2) (part := [.bool p.abs, v]) rfl) rfl ?_) | (go_at_call 8; (with_reducible refine (zshow_any hN w0 _ (HB.out.next M.out.bel0) p v m HP.out HV.out HE.out hl).mono ?_); rintro e w' ⟨rfl, hb⟩; replace M := Lib.hid (M.out.bel hb); clear hb))
  go_ret
  exact ⟨rfl, M.out.bel0⟩
theorem zside_any (hN : N ≤ 100000000) (w0 : World) (x : SideT) (v : Value) (m : Nat) (hx : WfSide (SS N) W x) (hv : SegsG (Lw w0) (ExR (Lw w0) m w0) w0 v x.p.segs) (hE : ∀ e, W e → REW w0 E e) (hl : (sideW E x).length ≤ 800000000) (w : World) (hbw : Bel w0.heap.size w0 w) : Calls Tryd.prog 50 #[.agg (sideL x v).toArray] w (fun r w' => r = .returned (.string (bs (sideW E x))) ∧ Bel w.heap.size w w') := by
  cases hx with
  | path p a => exact zside_path hN w0 p v m a hv hE hl w hbw
  | null => exact zside_null v w
  | tru => exact zside_tru v w
  | fls => exact zside_fls v w
  | num n a =>
    rw [show sideW E ⟨true, 2, n, [], path0⟩ = intL n from by unfold sideW; simp]
    exact zside_num v n a w
  | str s a =>
    rw [show sideW E ⟨true, 3, 0, s, path0⟩ = txtL 39 s from by unfold sideW; simp]
    exact zside_str v s (Nat.le_trans a.1 hN) w

set_option maxRecDepth 100000 in
set_option maxHeartbeats 2000000 in
theorem zexpr_test (op lk ln rk rn : Int) (ll rl la ra : Bool) (ls rs_ : ByteArray) (lv rv k q : Value) (w0 w : World) (hbw : Bel w0.heap.size w0 w) (hN : N ≤ 100000000) (m : Nat) (p : PathT) (hp : WfP (SS N) W p) (hv : SegsG (Lw w0) (ExR (Lw w0) m w0) w0 q p.segs) (hE : ∀ e, W e → REW w0 E e) (hl : (pathW E p).length ≤ 800000000) : Calls Tryd.prog 33 #[.agg #[.int .i64 3, k, .bool p.abs, q, .int .i64 op, .bool ll, .int .i64 lk, .int .i64 ln, .string ls, .bool la, lv, .bool rl, .int .i64 rk, .int .i64 rn, .string rs_, .bool ra, rv]] w (fun r w' => r = .returned (.string (bs (pathW E p))) ∧ Bel w.heap.size w w') := by
  have M := Lib.hid (Own.start [] w (fun _ => True) fun _ _ => trivial)
  have HB := Lib.hid hbw
  clear hbw
  have HP := Lib.hid hp
  have HV := Lib.hid hv
  have HE := Lib.hid hE
  clear hp hv hE
  go_enter Tryd.func33, Tryd.ntmps33
  go_wp2_with (first | ((with_reducible refine g_bx 97 1 ?_); refine l_bx rfl M.out ?_; clear M; intro g1 w' hg1 M; replace M := Lib.hid M.out.freeze) | ((with_reducible refine g_ld 3 ?_); refine l_l1b O_int rfl (M.out.now.2) (rfl) ?_) | ((with_reducible refine g_ld 25 ?_); refine l_ldf F_Path rfl (range_own (o := 2) (n := 2) (M.out.now.2) (part := [.bool p.abs, q]) rfl) rfl ?_) | (go_at_call 8; (with_reducible refine (zshow_any hN w0 _ (HB.out.next M.out.bel0) p q m HP.out HV.out HE.out hl).mono ?_); rintro e w' ⟨rfl, hb⟩; replace M := Lib.hid (M.out.bel hb); clear hb))
  go_ret
  exact ⟨rfl, M.out.bel0⟩
set_option maxRecDepth 100000 in
set_option maxHeartbeats 2000000 in
theorem zexpr_or (op lk ln rk rn : Int) (q0 ll rl la ra : Bool) (ls rs_ : ByteArray) (lv rv k q : Value) (w0 w : World) (hbw : Bel w0.heap.size w0 w) (m : Nat) (kids : List ExprT) (hrow : RowG (Lw w0) 17 (ExR (Lw w0) m w0) w0 k kids) (hE : ∀ e ∈ kids, REW w0 E e) (hk : ∀ k ∈ kids, 0 ≤ k.kind) (hl : (joinW [32, 124, 124, 32] (fun k => roundW E (k.kind == 0) k) kids).length ≤ 800000000) : Calls Tryd.prog 33 #[.agg #[.int .i64 0, k, .bool q0, q, .int .i64 op, .bool ll, .int .i64 lk, .int .i64 ln, .string ls, .bool la, lv, .bool rl, .int .i64 rk, .int .i64 rn, .string rs_, .bool ra, rv]] w (fun r w' => r = .returned (.string (bs (joinW [32, 124, 124, 32] (fun k => roundW E (k.kind == 0) k) kids))) ∧ Bel w.heap.size w w') := by
  have M := Lib.hid (Own.start [] w (fun _ => True) fun _ _ => trivial)
  have HB := Lib.hid hbw
  clear hbw
  have HF := Lib.hid (show ∀ k ∈ kids, decide (k.kind ≤ 0) = (k.kind == 0) from fun k hkk => by
    have := hk k hkk
    rw [Bool.eq_iff_iff]; simp; omega)
  have HR := Lib.hid hrow
  have HEK := Lib.hid hE
  clear hrow hE hk
  go_enter Tryd.func33, Tryd.ntmps33
  go_wp2_with (first | ((with_reducible refine g_bx 97 1 ?_); refine l_bx rfl M.out ?_; clear M; intro g1 w' hg1 M; replace M := Lib.hid M.out.freeze) | ((with_reducible refine g_ld 3 ?_); refine l_l1b O_int rfl (M.out.now.2) (rfl) ?_) | ((with_reducible refine g_ld 93 ?_); refine l_l1b O_sEx rfl (M.out.now.2) (rfl) ?_) | (go_at_call 49; refine (zkids_any w0 _ (HB.out.next M.out.bel0) m kids [32, 124, 124, 32] 0 (fun k => (k.kind == 0)) HF.out _ HR.out HEK.out (by decide) hl).mono ?_; rintro e w' ⟨rfl, hb⟩; replace M := Lib.hid (M.out.bel hb); clear hb))
  go_ret
  exact ⟨rfl, M.out.bel0⟩
set_option maxRecDepth 100000 in
set_option maxHeartbeats 2000000 in
theorem zexpr_and (op lk ln rk rn : Int) (q0 ll rl la ra : Bool) (ls rs_ : ByteArray) (lv rv k q : Value) (w0 w : World) (hbw : Bel w0.heap.size w0 w) (m : Nat) (kids : List ExprT) (hrow : RowG (Lw w0) 17 (ExR (Lw w0) m w0) w0 k kids) (hE : ∀ e ∈ kids, REW w0 E e) (hk : ∀ k ∈ kids, 0 ≤ k.kind) (hl : (joinW [32, 38, 38, 32] (fun k => roundW E (k.kind == 0 || k.kind == 1) k) kids).length ≤ 800000000) : Calls Tryd.prog 33 #[.agg #[.int .i64 1, k, .bool q0, q, .int .i64 op, .bool ll, .int .i64 lk, .int .i64 ln, .string ls, .bool la, lv, .bool rl, .int .i64 rk, .int .i64 rn, .string rs_, .bool ra, rv]] w (fun r w' => r = .returned (.string (bs (joinW [32, 38, 38, 32] (fun k => roundW E (k.kind == 0 || k.kind == 1) k) kids))) ∧ Bel w.heap.size w w') := by
  have M := Lib.hid (Own.start [] w (fun _ => True) fun _ _ => trivial)
  have HB := Lib.hid hbw
  clear hbw
  have HF := Lib.hid (show ∀ k ∈ kids, decide (k.kind ≤ 1) = (k.kind == 0 || k.kind == 1) from fun k hkk => by
    have := hk k hkk
    rw [Bool.eq_iff_iff]; simp; omega)
  have HR := Lib.hid hrow
  have HEK := Lib.hid hE
  clear hrow hE hk
  go_enter Tryd.func33, Tryd.ntmps33
  go_wp2_with (first | ((with_reducible refine g_bx 97 1 ?_); refine l_bx rfl M.out ?_; clear M; intro g1 w' hg1 M; replace M := Lib.hid M.out.freeze) | ((with_reducible refine g_ld 3 ?_); refine l_l1b O_int rfl (M.out.now.2) (rfl) ?_) | ((with_reducible refine g_ld 93 ?_); refine l_l1b O_sEx rfl (M.out.now.2) (rfl) ?_) | (go_at_call 49; refine (zkids_any w0 _ (HB.out.next M.out.bel0) m kids [32, 38, 38, 32] 1 (fun k => (k.kind == 0 || k.kind == 1)) HF.out _ HR.out HEK.out (by decide) hl).mono ?_; rintro e w' ⟨rfl, hb⟩; replace M := Lib.hid (M.out.bel hb); clear hb))
  go_ret
  exact ⟨rfl, M.out.bel0⟩
set_option maxRecDepth 100000 in
set_option maxHeartbeats 2000000 in
theorem zexpr_not1 (op lk ln rk rn : Int) (q0 ll rl la ra : Bool) (ls rs_ : ByteArray) (lv rv q : Value) (w0 w : World) (hbw : Bel w0.heap.size w0 w) (b off cp : Nat) (e : ExprT) (kc : List Value) (hbt : b < w0.heap.size) (hra : w0.rangeAt b off kc) (hkn : kc.length = 17) (hk0 : kc[0]? = some (.int .i64 e.kind)) (hkw : RKW w0 E e kc) (hl : (E e).length ≤ 800000000) (ht : (e.kind != 3) = true) : Calls Tryd.prog 33 #[.agg #[.int .i64 2, .slice (some ⟨b, off, none⟩) 1 cp, .bool q0, q, .int .i64 op, .bool ll, .int .i64 lk, .int .i64 ln, .string ls, .bool la, lv, .bool rl, .int .i64 rk, .int .i64 rn, .string rs_, .bool ra, rv]] w (fun r w' => r = .returned (.string (bs (33 :: roundW E (e.kind != 3) e))) ∧ Bel w.heap.size w w') := by
  have M := Lib.hid (Own.start [] w (fun _ => True) fun _ _ => trivial)
  have HB := Lib.hid hbw
  clear hbw
  have HBT := Lib.hid hbt
  have HRA := Lib.hid hra
  have HKN := Lib.hid hkn
  have HK0C := Lib.hid hk0
  unfold RKW at hkw
  have HKW := Lib.hid hkw
  have hl2 : (E e).length ≤ 800000000 := by omega
  have HTT := Lib.hid ht
  clear hbt hra hkn hk0 hkw
  go_enter Tryd.func33, Tryd.ntmps33
  go_wp2_with (first | ((with_reducible refine g_bx 97 1 ?_); refine l_bx rfl M.out ?_; clear M; intro g1 w' hg1 M; replace M := Lib.hid M.out.freeze) | ((with_reducible refine g_ld 3 ?_); refine l_l1b O_int rfl (M.out.now.2) (rfl) ?_) | ((with_reducible refine g_ld 93 ?_); refine l_l1b O_sEx rfl (M.out.now.2) (rfl) ?_) | ((with_reducible refine g_ld 97 ?_); refine l_ldf F_Ex rfl (fun j v hv => (World.cell?_of_block ((HB.out.next M.out.bel0).block b HBT.out)).trans (HRA.out j v hv)) HKN.out ?_) | ((with_reducible refine g_ld 3 ?_); refine l_ldc O_int rfl ((World.cell?_of_block ((HB.out.next M.out.bel0).block b HBT.out)).trans (HRA.out 0 _ HK0C.out)) ?_) | (go_at_call 33; (with_reducible refine (HKW.out _ (HB.out.next M.out.bel0) hl2).mono ?_); rintro e w' ⟨rfl, hb⟩; replace M := Lib.hid (M.out.bel hb); clear hb) | ((with_reducible refine g_cat ?_); refine l_cat rfl rfl (by first | omega | (simp <;> omega)) ?_))
  go_ret
  exact ⟨ret_bs (by rw [HTT.out]; simp [roundW]), M.out.bel0⟩
set_option maxRecDepth 100000 in
set_option maxHeartbeats 2000000 in
theorem zexpr_not0 (op lk ln rk rn : Int) (q0 ll rl la ra : Bool) (ls rs_ : ByteArray) (lv rv q : Value) (w0 w : World) (hbw : Bel w0.heap.size w0 w) (b off cp : Nat) (e : ExprT) (kc : List Value) (hbt : b < w0.heap.size) (hra : w0.rangeAt b off kc) (hkn : kc.length = 17) (hk0 : kc[0]? = some (.int .i64 e.kind)) (hkw : RKW w0 E e kc) (hl : (E e).length ≤ 800000000) (ht : (e.kind != 3) = false) : Calls Tryd.prog 33 #[.agg #[.int .i64 2, .slice (some ⟨b, off, none⟩) 1 cp, .bool q0, q, .int .i64 op, .bool ll, .int .i64 lk, .int .i64 ln, .string ls, .bool la, lv, .bool rl, .int .i64 rk, .int .i64 rn, .string rs_, .bool ra, rv]] w (fun r w' => r = .returned (.string (bs (33 :: roundW E (e.kind != 3) e))) ∧ Bel w.heap.size w w') := by
  have M := Lib.hid (Own.start [] w (fun _ => True) fun _ _ => trivial)
  have HB := Lib.hid hbw
  clear hbw
  have HBT := Lib.hid hbt
  have HRA := Lib.hid hra
  have HKN := Lib.hid hkn
  have HK0C := Lib.hid hk0
  unfold RKW at hkw
  have HKW := Lib.hid hkw
  have hl2 : (E e).length ≤ 800000000 := by omega
  have HTT := Lib.hid ht
  clear hbt hra hkn hk0 hkw
  go_enter Tryd.func33, Tryd.ntmps33
  go_wp2_with (first | ((with_reducible refine g_bx 97 1 ?_); refine l_bx rfl M.out ?_; clear M; intro g1 w' hg1 M; replace M := Lib.hid M.out.freeze) | ((with_reducible refine g_ld 3 ?_); refine l_l1b O_int rfl (M.out.now.2) (rfl) ?_) | ((with_reducible refine g_ld 93 ?_); refine l_l1b O_sEx rfl (M.out.now.2) (rfl) ?_) | ((with_reducible refine g_ld 97 ?_); refine l_ldf F_Ex rfl (fun j v hv => (World.cell?_of_block ((HB.out.next M.out.bel0).block b HBT.out)).trans (HRA.out j v hv)) HKN.out ?_) | ((with_reducible refine g_ld 3 ?_); refine l_ldc O_int rfl ((World.cell?_of_block ((HB.out.next M.out.bel0).block b HBT.out)).trans (HRA.out 0 _ HK0C.out)) ?_) | (go_at_call 33; (with_reducible refine (HKW.out _ (HB.out.next M.out.bel0) hl2).mono ?_); rintro e w' ⟨rfl, hb⟩; replace M := Lib.hid (M.out.bel hb); clear hb) | ((with_reducible refine g_cat ?_); refine l_cat rfl rfl (by first | omega | (simp <;> omega)) ?_))
  go_ret
  exact ⟨ret_bs (by rw [HTT.out]; simp [roundW]), M.out.bel0⟩
set_option maxRecDepth 100000 in
set_option maxHeartbeats 2000000 in
theorem zexpr_cmp (op : Int) (q0 : Bool) (lv rv k q : Value) (w0 w : World) (hbw : Bel w0.heap.size w0 w) (hN : N ≤ 100000000) (hE : ∀ e, W e → REW w0 E e) (m : Nat) (a b : SideT) (ho1 : 0 ≤ op) (ho2 : op ≤ 5) (ha : WfSide (SS N) W a) (hb2 : WfSide (SS N) W b) (hva : SegsG (Lw w0) (ExR (Lw w0) m w0) w0 lv a.p.segs) (hvb : SegsG (Lw w0) (ExR (Lw w0) m w0) w0 rv b.p.segs) (hl : (sideW E a ++ (32 :: (opB op ++ 32 :: sideW E b))).length ≤ 800000000) : Calls Tryd.prog 33 #[.agg #[.int .i64 4, k, .bool q0, q, .int .i64 op, .bool a.lit, .int .i64 a.kind, .int .i64 a.n, .string (bs a.s), .bool a.p.abs, lv, .bool b.lit, .int .i64 b.kind, .int .i64 b.n, .string (bs b.s), .bool b.p.abs, rv]] w (fun r w' => r = .returned (.string (bs (sideW E a ++ (32 :: (opB op ++ 32 :: sideW E b))))) ∧ Bel w.heap.size w w') := by
  have M := Lib.hid (Own.start [] w (fun _ => True) fun _ _ => trivial)
  have HB := Lib.hid hbw
  clear hbw
  have HA := Lib.hid ha
  have HB2 := Lib.hid hb2
  have HVA := Lib.hid hva
  have HVB := Lib.hid hvb
  have HE := Lib.hid hE
  simp only [List.length_append, List.length_cons] at hl
  have hla : (sideW E a).length ≤ 800000000 := by omega
  have hlb : (sideW E b).length ≤ 800000000 := by omega
  have hlab : (sideW E a).length + (sideW E b).length ≤ 800000000 := by omega
  clear ha hb2 hva hvb hE hl
  go_enter Tryd.func33, Tryd.ntmps33
  let qd := bodyPost Tryd.prog Tryd.f33 (fun _ _ => True)
  go_upto_region 14 with (first | ((with_reducible refine g_bx 97 1 ?_); refine l_bx rfl M.out ?_; clear M; intro g1 w' hg1 M; replace M := Lib.hid M.out.freeze) | ((with_reducible refine g_ld 3 ?_); refine l_l1b O_int rfl (M.out.now.2) (rfl) ?_) | ((with_reducible refine g_bs 109 40 ?_); refine l_bs SL_sstr (cs := #[.string ⟨#[32, 61, 61, 32]⟩, .string ⟨#[32, 33, 61, 32]⟩, .string ⟨#[32, 60, 32]⟩, .string ⟨#[32, 60, 61, 32]⟩, .string ⟨#[32, 62, 32]⟩, .string ⟨#[32, 62, 61, 32]⟩]) (by kernel_rfl) M.out ?_; clear M; intro g40 w' hg40 M))
  replace M := Lib.hid M.out.freeze
  (try simp only [Act.put, List.setIfInBounds_toArray, List.set_cons_zero, List.set_cons_succ])
  go_cut [2, 41, 42, 43, 44, 45, 46, 47, 48, 49, 50, 51, 52, 53] (fun v2 _ _ _ _ _ _ _ _ _ _ _ _ _ wx => v2 = .string (bs (sideW E a ++ ([32] ++ opB op ++ [32]) ++ sideW E b)) ∧ Hid (Own [] w wx [] [] (fun _ => True)))
  case first =>
    rcases (show op = 0 ∨ op = 1 ∨ op = 2 ∨ op = 3 ∨ op = 4 ∨ op = 5 from by omega) with rfl | rfl | rfl | rfl | rfl | rfl
    · obtain ⟨Z, hZ⟩ : ∃ Z, sideW E a ++ [32, 61, 61, 32] = Z := ⟨_, rfl⟩
      have hzl : Z.length ≤ 900000000 := by rw [← hZ, List.length_append]; simp only [List.length_cons, List.length_nil]; omega
      have HZ := Lib.hid hZ
      clear hZ
      replace M := Lib.hid M.out.drew
      refine tb (fun y => (True ∧ Blk y g1 97 #[.int .i64 4, k, .bool q0, q, .int .i64 0, .bool a.lit, .int .i64 a.kind, .int .i64 a.n, .string (bs a.s), .bool a.p.abs, lv, .bool b.lit, .int .i64 b.kind, .int .i64 b.n, .string (bs b.s), .bool b.p.abs, rv]) ∧ Blk y g40 9 #[.string ⟨#[32, 61, 61, 32]⟩, .string ⟨#[32, 33, 61, 32]⟩, .string ⟨#[32, 60, 32]⟩, .string ⟨#[32, 60, 61, 32]⟩, .string ⟨#[32, 62, 32]⟩, .string ⟨#[32, 62, 61, 32]⟩]) M.out.now ?_
      refine tkp 0 rfl M.out.now ?_
      refine tk 1 rfl M.out.now (y_ldf F_Sd _ g1 5 rfl (sideL a lv) (fun y h => range_own (o := 5) (n := 6) h.1.2 rfl) rfl) ?_
      refine tkp 3 rfl M.out.now ?_
      refine tkp 4 rfl M.out.now ?_
      refine tk 5 rfl M.out.now (y_ld1 O_int _ g1 4 rfl _ _ (fun y h => h.1.2) _ rfl) ?_
      refine tkp 6 rfl M.out.now ?_
      refine tk 7 rfl M.out.now (y_ld1 O_str _ g40 0 rfl _ _ (fun y h => h.2) _ rfl) ?_
      refine tkp 9 rfl M.out.now ?_
      refine tk 10 rfl M.out.now (y_ldf F_Sd _ g1 11 rfl (sideL b rv) (fun y h => range_own (o := 11) (n := 6) h.1.2 rfl) rfl) ?_
      refine tr [2] ?_
      refine rdy_call (zside_any hN w0 a lv m HA.out HVA.out HE.out hla _ (HB.out.next M.out.bel0)) (i := 2) (op := .call _) rfl (by go_simp) ?_ ?_
      · rintro e_ w' ⟨rfl, hb⟩; replace M := Lib.hid (M.out.bel hb); clear hb; refine ⟨_, rfl, ?_⟩; refine ⟨M.out.now, tn ?_⟩
        refine tkp 8 rfl M.out.now ?_ (v := .string (bs Z)) (hv := by intro w hS; go_simp; rw [if_neg (show ¬ 9223372036854775807 < (bs (sideW E a)).size + 4 by rw [bs_size2]; omega)]; exact congrArg (fun s => Result.ok (Next.value (Value.string s)) w) ((bs_app2 (sideW E a) [32, 61, 61, 32]).trans (congrArg bs HZ.out)))
        refine tr [11] ?_
        refine rdy_call (zside_any hN w0 b rv m HB2.out HVB.out HE.out hlb _ (HB.out.next M.out.bel0)) (i := 11) (op := .call _) rfl (by go_simp) ?_ ?_
        · rintro e_ w' ⟨rfl, hb⟩; replace M := Lib.hid (M.out.bel hb); clear hb; refine ⟨_, rfl, ?_⟩; refine ⟨M.out.now, tn ?_⟩
          refine tkp 12 rfl M.out.now ?_ (v := .string (bs (Z ++ sideW E b))) (hv := by intro w hS; go_simp; rw [if_neg (show ¬ 9223372036854775807 < (bs Z).size + (bs (sideW E b)).size by rw [bs_size2, bs_size2]; omega)]; exact congrArg (fun s => Result.ok (Next.value (Value.string s)) w) (bs_app2 Z (sideW E b)))
          refine tkp 13 rfl M.out.now ?_
          refine te ?_
          go_wp2
          go_meet
          case rel => exact ⟨by rw [← HZ.out]; exact congrArg (fun l => Value.string (bs l)) (by simp [opB]), Lib.hid (M.out.imp fun _ _ => trivial)⟩
        exact .nil
      exact .nil
    · obtain ⟨Z, hZ⟩ : ∃ Z, sideW E a ++ [32, 33, 61, 32] = Z := ⟨_, rfl⟩
      have hzl : Z.length ≤ 900000000 := by rw [← hZ, List.length_append]; simp only [List.length_cons, List.length_nil]; omega
      have HZ := Lib.hid hZ
      clear hZ
      replace M := Lib.hid M.out.drew
      refine tb (fun y => (True ∧ Blk y g1 97 #[.int .i64 4, k, .bool q0, q, .int .i64 1, .bool a.lit, .int .i64 a.kind, .int .i64 a.n, .string (bs a.s), .bool a.p.abs, lv, .bool b.lit, .int .i64 b.kind, .int .i64 b.n, .string (bs b.s), .bool b.p.abs, rv]) ∧ Blk y g40 9 #[.string ⟨#[32, 61, 61, 32]⟩, .string ⟨#[32, 33, 61, 32]⟩, .string ⟨#[32, 60, 32]⟩, .string ⟨#[32, 60, 61, 32]⟩, .string ⟨#[32, 62, 32]⟩, .string ⟨#[32, 62, 61, 32]⟩]) M.out.now ?_
      refine tkp 0 rfl M.out.now ?_
      refine tk 1 rfl M.out.now (y_ldf F_Sd _ g1 5 rfl (sideL a lv) (fun y h => range_own (o := 5) (n := 6) h.1.2 rfl) rfl) ?_
      refine tkp 3 rfl M.out.now ?_
      refine tkp 4 rfl M.out.now ?_
      refine tk 5 rfl M.out.now (y_ld1 O_int _ g1 4 rfl _ _ (fun y h => h.1.2) _ rfl) ?_
      refine tkp 6 rfl M.out.now ?_
      refine tk 7 rfl M.out.now (y_ld1 O_str _ g40 1 rfl _ _ (fun y h => h.2) _ rfl) ?_
      refine tkp 9 rfl M.out.now ?_
      refine tk 10 rfl M.out.now (y_ldf F_Sd _ g1 11 rfl (sideL b rv) (fun y h => range_own (o := 11) (n := 6) h.1.2 rfl) rfl) ?_
      refine tr [2] ?_
      refine rdy_call (zside_any hN w0 a lv m HA.out HVA.out HE.out hla _ (HB.out.next M.out.bel0)) (i := 2) (op := .call _) rfl (by go_simp) ?_ ?_
      · rintro e_ w' ⟨rfl, hb⟩; replace M := Lib.hid (M.out.bel hb); clear hb; refine ⟨_, rfl, ?_⟩; refine ⟨M.out.now, tn ?_⟩
        refine tkp 8 rfl M.out.now ?_ (v := .string (bs Z)) (hv := by intro w hS; go_simp; rw [if_neg (show ¬ 9223372036854775807 < (bs (sideW E a)).size + 4 by rw [bs_size2]; omega)]; exact congrArg (fun s => Result.ok (Next.value (Value.string s)) w) ((bs_app2 (sideW E a) [32, 33, 61, 32]).trans (congrArg bs HZ.out)))
        refine tr [11] ?_
        refine rdy_call (zside_any hN w0 b rv m HB2.out HVB.out HE.out hlb _ (HB.out.next M.out.bel0)) (i := 11) (op := .call _) rfl (by go_simp) ?_ ?_
        · rintro e_ w' ⟨rfl, hb⟩; replace M := Lib.hid (M.out.bel hb); clear hb; refine ⟨_, rfl, ?_⟩; refine ⟨M.out.now, tn ?_⟩
          refine tkp 12 rfl M.out.now ?_ (v := .string (bs (Z ++ sideW E b))) (hv := by intro w hS; go_simp; rw [if_neg (show ¬ 9223372036854775807 < (bs Z).size + (bs (sideW E b)).size by rw [bs_size2, bs_size2]; omega)]; exact congrArg (fun s => Result.ok (Next.value (Value.string s)) w) (bs_app2 Z (sideW E b)))
          refine tkp 13 rfl M.out.now ?_
          refine te ?_
          go_wp2
          go_meet
          case rel => exact ⟨by rw [← HZ.out]; exact congrArg (fun l => Value.string (bs l)) (by simp [opB]), Lib.hid (M.out.imp fun _ _ => trivial)⟩
        exact .nil
      exact .nil
    · obtain ⟨Z, hZ⟩ : ∃ Z, sideW E a ++ [32, 60, 32] = Z := ⟨_, rfl⟩
      have hzl : Z.length ≤ 900000000 := by rw [← hZ, List.length_append]; simp only [List.length_cons, List.length_nil]; omega
      have HZ := Lib.hid hZ
      clear hZ
      replace M := Lib.hid M.out.drew
      refine tb (fun y => (True ∧ Blk y g1 97 #[.int .i64 4, k, .bool q0, q, .int .i64 2, .bool a.lit, .int .i64 a.kind, .int .i64 a.n, .string (bs a.s), .bool a.p.abs, lv, .bool b.lit, .int .i64 b.kind, .int .i64 b.n, .string (bs b.s), .bool b.p.abs, rv]) ∧ Blk y g40 9 #[.string ⟨#[32, 61, 61, 32]⟩, .string ⟨#[32, 33, 61, 32]⟩, .string ⟨#[32, 60, 32]⟩, .string ⟨#[32, 60, 61, 32]⟩, .string ⟨#[32, 62, 32]⟩, .string ⟨#[32, 62, 61, 32]⟩]) M.out.now ?_
      refine tkp 0 rfl M.out.now ?_
      refine tk 1 rfl M.out.now (y_ldf F_Sd _ g1 5 rfl (sideL a lv) (fun y h => range_own (o := 5) (n := 6) h.1.2 rfl) rfl) ?_
      refine tkp 3 rfl M.out.now ?_
      refine tkp 4 rfl M.out.now ?_
      refine tk 5 rfl M.out.now (y_ld1 O_int _ g1 4 rfl _ _ (fun y h => h.1.2) _ rfl) ?_
      refine tkp 6 rfl M.out.now ?_
      refine tk 7 rfl M.out.now (y_ld1 O_str _ g40 2 rfl _ _ (fun y h => h.2) _ rfl) ?_
      refine tkp 9 rfl M.out.now ?_
      refine tk 10 rfl M.out.now (y_ldf F_Sd _ g1 11 rfl (sideL b rv) (fun y h => range_own (o := 11) (n := 6) h.1.2 rfl) rfl) ?_
      refine tr [2] ?_
      refine rdy_call (zside_any hN w0 a lv m HA.out HVA.out HE.out hla _ (HB.out.next M.out.bel0)) (i := 2) (op := .call _) rfl (by go_simp) ?_ ?_
      · rintro e_ w' ⟨rfl, hb⟩; replace M := Lib.hid (M.out.bel hb); clear hb; refine ⟨_, rfl, ?_⟩; refine ⟨M.out.now, tn ?_⟩
        refine tkp 8 rfl M.out.now ?_ (v := .string (bs Z)) (hv := by intro w hS; go_simp; rw [if_neg (show ¬ 9223372036854775807 < (bs (sideW E a)).size + 3 by rw [bs_size2]; omega)]; exact congrArg (fun s => Result.ok (Next.value (Value.string s)) w) ((bs_app2 (sideW E a) [32, 60, 32]).trans (congrArg bs HZ.out)))
        refine tr [11] ?_
        refine rdy_call (zside_any hN w0 b rv m HB2.out HVB.out HE.out hlb _ (HB.out.next M.out.bel0)) (i := 11) (op := .call _) rfl (by go_simp) ?_ ?_
        · rintro e_ w' ⟨rfl, hb⟩; replace M := Lib.hid (M.out.bel hb); clear hb; refine ⟨_, rfl, ?_⟩; refine ⟨M.out.now, tn ?_⟩
          refine tkp 12 rfl M.out.now ?_ (v := .string (bs (Z ++ sideW E b))) (hv := by intro w hS; go_simp; rw [if_neg (show ¬ 9223372036854775807 < (bs Z).size + (bs (sideW E b)).size by rw [bs_size2, bs_size2]; omega)]; exact congrArg (fun s => Result.ok (Next.value (Value.string s)) w) (bs_app2 Z (sideW E b)))
          refine tkp 13 rfl M.out.now ?_
          refine te ?_
          go_wp2
          go_meet
          case rel => exact ⟨by rw [← HZ.out]; exact congrArg (fun l => Value.string (bs l)) (by simp [opB]), Lib.hid (M.out.imp fun _ _ => trivial)⟩
        exact .nil
      exact .nil
    · obtain ⟨Z, hZ⟩ : ∃ Z, sideW E a ++ [32, 60, 61, 32] = Z := ⟨_, rfl⟩
      have hzl : Z.length ≤ 900000000 := by rw [← hZ, List.length_append]; simp only [List.length_cons, List.length_nil]; omega
      have HZ := Lib.hid hZ
      clear hZ
      replace M := Lib.hid M.out.drew
      refine tb (fun y => (True ∧ Blk y g1 97 #[.int .i64 4, k, .bool q0, q, .int .i64 3, .bool a.lit, .int .i64 a.kind, .int .i64 a.n, .string (bs a.s), .bool a.p.abs, lv, .bool b.lit, .int .i64 b.kind, .int .i64 b.n, .string (bs b.s), .bool b.p.abs, rv]) ∧ Blk y g40 9 #[.string ⟨#[32, 61, 61, 32]⟩, .string ⟨#[32, 33, 61, 32]⟩, .string ⟨#[32, 60, 32]⟩, .string ⟨#[32, 60, 61, 32]⟩, .string ⟨#[32, 62, 32]⟩, .string ⟨#[32, 62, 61, 32]⟩]) M.out.now ?_
      refine tkp 0 rfl M.out.now ?_
      refine tk 1 rfl M.out.now (y_ldf F_Sd _ g1 5 rfl (sideL a lv) (fun y h => range_own (o := 5) (n := 6) h.1.2 rfl) rfl) ?_
      refine tkp 3 rfl M.out.now ?_
      refine tkp 4 rfl M.out.now ?_
      refine tk 5 rfl M.out.now (y_ld1 O_int _ g1 4 rfl _ _ (fun y h => h.1.2) _ rfl) ?_
      refine tkp 6 rfl M.out.now ?_
      refine tk 7 rfl M.out.now (y_ld1 O_str _ g40 3 rfl _ _ (fun y h => h.2) _ rfl) ?_
      refine tkp 9 rfl M.out.now ?_
      refine tk 10 rfl M.out.now (y_ldf F_Sd _ g1 11 rfl (sideL b rv) (fun y h => range_own (o := 11) (n := 6) h.1.2 rfl) rfl) ?_
      refine tr [2] ?_
      refine rdy_call (zside_any hN w0 a lv m HA.out HVA.out HE.out hla _ (HB.out.next M.out.bel0)) (i := 2) (op := .call _) rfl (by go_simp) ?_ ?_
      · rintro e_ w' ⟨rfl, hb⟩; replace M := Lib.hid (M.out.bel hb); clear hb; refine ⟨_, rfl, ?_⟩; refine ⟨M.out.now, tn ?_⟩
        refine tkp 8 rfl M.out.now ?_ (v := .string (bs Z)) (hv := by intro w hS; go_simp; rw [if_neg (show ¬ 9223372036854775807 < (bs (sideW E a)).size + 4 by rw [bs_size2]; omega)]; exact congrArg (fun s => Result.ok (Next.value (Value.string s)) w) ((bs_app2 (sideW E a) [32, 60, 61, 32]).trans (congrArg bs HZ.out)))
        refine tr [11] ?_
        refine rdy_call (zside_any hN w0 b rv m HB2.out HVB.out HE.out hlb _ (HB.out.next M.out.bel0)) (i := 11) (op := .call _) rfl (by go_simp) ?_ ?_
        · rintro e_ w' ⟨rfl, hb⟩; replace M := Lib.hid (M.out.bel hb); clear hb; refine ⟨_, rfl, ?_⟩; refine ⟨M.out.now, tn ?_⟩
          refine tkp 12 rfl M.out.now ?_ (v := .string (bs (Z ++ sideW E b))) (hv := by intro w hS; go_simp; rw [if_neg (show ¬ 9223372036854775807 < (bs Z).size + (bs (sideW E b)).size by rw [bs_size2, bs_size2]; omega)]; exact congrArg (fun s => Result.ok (Next.value (Value.string s)) w) (bs_app2 Z (sideW E b)))
          refine tkp 13 rfl M.out.now ?_
          refine te ?_
          go_wp2
          go_meet
          case rel => exact ⟨by rw [← HZ.out]; exact congrArg (fun l => Value.string (bs l)) (by simp [opB]), Lib.hid (M.out.imp fun _ _ => trivial)⟩
        exact .nil
      exact .nil
    · obtain ⟨Z, hZ⟩ : ∃ Z, sideW E a ++ [32, 62, 32] = Z := ⟨_, rfl⟩
      have hzl : Z.length ≤ 900000000 := by rw [← hZ, List.length_append]; simp only [List.length_cons, List.length_nil]; omega
      have HZ := Lib.hid hZ
      clear hZ
      replace M := Lib.hid M.out.drew
      refine tb (fun y => (True ∧ Blk y g1 97 #[.int .i64 4, k, .bool q0, q, .int .i64 4, .bool a.lit, .int .i64 a.kind, .int .i64 a.n, .string (bs a.s), .bool a.p.abs, lv, .bool b.lit, .int .i64 b.kind, .int .i64 b.n, .string (bs b.s), .bool b.p.abs, rv]) ∧ Blk y g40 9 #[.string ⟨#[32, 61, 61, 32]⟩, .string ⟨#[32, 33, 61, 32]⟩, .string ⟨#[32, 60, 32]⟩, .string ⟨#[32, 60, 61, 32]⟩, .string ⟨#[32, 62, 32]⟩, .string ⟨#[32, 62, 61, 32]⟩]) M.out.now ?_
      refine tkp 0 rfl M.out.now ?_
      refine tk 1 rfl M.out.now (y_ldf F_Sd _ g1 5 rfl (sideL a lv) (fun y h => range_own (o := 5) (n := 6) h.1.2 rfl) rfl) ?_
      refine tkp 3 rfl M.out.now ?_
      refine tkp 4 rfl M.out.now ?_
      refine tk 5 rfl M.out.now (y_ld1 O_int _ g1 4 rfl _ _ (fun y h => h.1.2) _ rfl) ?_
      refine tkp 6 rfl M.out.now ?_
      refine tk 7 rfl M.out.now (y_ld1 O_str _ g40 4 rfl _ _ (fun y h => h.2) _ rfl) ?_
      refine tkp 9 rfl M.out.now ?_
      refine tk 10 rfl M.out.now (y_ldf F_Sd _ g1 11 rfl (sideL b rv) (fun y h => range_own (o := 11) (n := 6) h.1.2 rfl) rfl) ?_
      refine tr [2] ?_
      refine rdy_call (zside_any hN w0 a lv m HA.out HVA.out HE.out hla _ (HB.out.next M.out.bel0)) (i := 2) (op := .call _) rfl (by go_simp) ?_ ?_
      · rintro e_ w' ⟨rfl, hb⟩; replace M := Lib.hid (M.out.bel hb); clear hb; refine ⟨_, rfl, ?_⟩; refine ⟨M.out.now, tn ?_⟩
        refine tkp 8 rfl M.out.now ?_ (v := .string (bs Z)) (hv := by intro w hS; go_simp; rw [if_neg (show ¬ 9223372036854775807 < (bs (sideW E a)).size + 3 by rw [bs_size2]; omega)]; exact congrArg (fun s => Result.ok (Next.value (Value.string s)) w) ((bs_app2 (sideW E a) [32, 62, 32]).trans (congrArg bs HZ.out)))
        refine tr [11] ?_
        refine rdy_call (zside_any hN w0 b rv m HB2.out HVB.out HE.out hlb _ (HB.out.next M.out.bel0)) (i := 11) (op := .call _) rfl (by go_simp) ?_ ?_
        · rintro e_ w' ⟨rfl, hb⟩; replace M := Lib.hid (M.out.bel hb); clear hb; refine ⟨_, rfl, ?_⟩; refine ⟨M.out.now, tn ?_⟩
          refine tkp 12 rfl M.out.now ?_ (v := .string (bs (Z ++ sideW E b))) (hv := by intro w hS; go_simp; rw [if_neg (show ¬ 9223372036854775807 < (bs Z).size + (bs (sideW E b)).size by rw [bs_size2, bs_size2]; omega)]; exact congrArg (fun s => Result.ok (Next.value (Value.string s)) w) (bs_app2 Z (sideW E b)))
          refine tkp 13 rfl M.out.now ?_
          refine te ?_
          go_wp2
          go_meet
          case rel => exact ⟨by rw [← HZ.out]; exact congrArg (fun l => Value.string (bs l)) (by simp [opB]), Lib.hid (M.out.imp fun _ _ => trivial)⟩
        exact .nil
      exact .nil
    · obtain ⟨Z, hZ⟩ : ∃ Z, sideW E a ++ [32, 62, 61, 32] = Z := ⟨_, rfl⟩
      have hzl : Z.length ≤ 900000000 := by rw [← hZ, List.length_append]; simp only [List.length_cons, List.length_nil]; omega
      have HZ := Lib.hid hZ
      clear hZ
      replace M := Lib.hid M.out.drew
      refine tb (fun y => (True ∧ Blk y g1 97 #[.int .i64 4, k, .bool q0, q, .int .i64 5, .bool a.lit, .int .i64 a.kind, .int .i64 a.n, .string (bs a.s), .bool a.p.abs, lv, .bool b.lit, .int .i64 b.kind, .int .i64 b.n, .string (bs b.s), .bool b.p.abs, rv]) ∧ Blk y g40 9 #[.string ⟨#[32, 61, 61, 32]⟩, .string ⟨#[32, 33, 61, 32]⟩, .string ⟨#[32, 60, 32]⟩, .string ⟨#[32, 60, 61, 32]⟩, .string ⟨#[32, 62, 32]⟩, .string ⟨#[32, 62, 61, 32]⟩]) M.out.now ?_
      refine tkp 0 rfl M.out.now ?_
      refine tk 1 rfl M.out.now (y_ldf F_Sd _ g1 5 rfl (sideL a lv) (fun y h => range_own (o := 5) (n := 6) h.1.2 rfl) rfl) ?_
      refine tkp 3 rfl M.out.now ?_
      refine tkp 4 rfl M.out.now ?_
      refine tk 5 rfl M.out.now (y_ld1 O_int _ g1 4 rfl _ _ (fun y h => h.1.2) _ rfl) ?_
      refine tkp 6 rfl M.out.now ?_
      refine tk 7 rfl M.out.now (y_ld1 O_str _ g40 5 rfl _ _ (fun y h => h.2) _ rfl) ?_
      refine tkp 9 rfl M.out.now ?_
      refine tk 10 rfl M.out.now (y_ldf F_Sd _ g1 11 rfl (sideL b rv) (fun y h => range_own (o := 11) (n := 6) h.1.2 rfl) rfl) ?_
      refine tr [2] ?_
      refine rdy_call (zside_any hN w0 a lv m HA.out HVA.out HE.out hla _ (HB.out.next M.out.bel0)) (i := 2) (op := .call _) rfl (by go_simp) ?_ ?_
      · rintro e_ w' ⟨rfl, hb⟩; replace M := Lib.hid (M.out.bel hb); clear hb; refine ⟨_, rfl, ?_⟩; refine ⟨M.out.now, tn ?_⟩
        refine tkp 8 rfl M.out.now ?_ (v := .string (bs Z)) (hv := by intro w hS; go_simp; rw [if_neg (show ¬ 9223372036854775807 < (bs (sideW E a)).size + 4 by rw [bs_size2]; omega)]; exact congrArg (fun s => Result.ok (Next.value (Value.string s)) w) ((bs_app2 (sideW E a) [32, 62, 61, 32]).trans (congrArg bs HZ.out)))
        refine tr [11] ?_
        refine rdy_call (zside_any hN w0 b rv m HB2.out HVB.out HE.out hlb _ (HB.out.next M.out.bel0)) (i := 11) (op := .call _) rfl (by go_simp) ?_ ?_
        · rintro e_ w' ⟨rfl, hb⟩; replace M := Lib.hid (M.out.bel hb); clear hb; refine ⟨_, rfl, ?_⟩; refine ⟨M.out.now, tn ?_⟩
          refine tkp 12 rfl M.out.now ?_ (v := .string (bs (Z ++ sideW E b))) (hv := by intro w hS; go_simp; rw [if_neg (show ¬ 9223372036854775807 < (bs Z).size + (bs (sideW E b)).size by rw [bs_size2, bs_size2]; omega)]; exact congrArg (fun s => Result.ok (Next.value (Value.string s)) w) (bs_app2 Z (sideW E b)))
          refine tkp 13 rfl M.out.now ?_
          refine te ?_
          go_wp2
          go_meet
          case rel => exact ⟨by rw [← HZ.out]; exact congrArg (fun l => Value.string (bs l)) (by simp [opB]), Lib.hid (M.out.imp fun _ _ => trivial)⟩
        exact .nil
      exact .nil
  case rest =>
  clear M
  obtain ⟨rfl, M⟩ := hcut
  go_wp2
  go_ret
  exact ⟨ret_bs (by simp), M.out.bel0⟩
end
theorem wf_kind {S : List UInt8 → Prop} : ∀ (n : Nat) (x : ExprT), WfN S n x → 0 ≤ x.kind
  | 0, _, h => h.elim
  | n + 1, x, h => by
    have h' : WfX S (WfN S n) x := h
    cases h' <;> simp [mkE, tstE]
theorem zexpr_all {N : Nat} (hN : N ≤ 100000000) (w0 : World) : ∀ (n : Nat) (x : ExprT), WfN (SS N) n x → REW w0 (exprW n) x
  | 0, _, h => h.elim
  | n + 1, x, h => fun m cs hx => by
    have h' : WfX (SS N) (WfN (SS N) n) x := h
    have ih := zexpr_all hN w0 n
    obtain ⟨m, rfl⟩ : ∃ k, m = k + 1 := by
      cases m with
      | zero => exact hx.elim
      | succ m => exact ⟨m, rfl⟩
    intro w hbw hl
    obtain ⟨kv, qv, lv, rv, rfl, hk, hq, hlv, hrv⟩ := hx
    cases h' with
    | or l a b =>
      rw [show exprW (n + 1) (mkE 0 l) = joinW [32, 124, 124, 32] (fun k => roundW (exprW n) (k.kind == 0) k) l from by rw [exprW, if_pos (show (mkE 0 l).kind = 0 from rfl)]; rfl] at hl ⊢
      exact zexpr_or 0 0 0 0 0 false false false false false ⟨#[]⟩ ⟨#[]⟩ lv rv kv qv w0 w hbw m l hk (fun e he => ih e (b e he)) (fun k hk => wf_kind n k (b k hk)) hl
    | and l a b =>
      rw [show exprW (n + 1) (mkE 1 l) = joinW [32, 38, 38, 32] (fun k => roundW (exprW n) (k.kind == 0 || k.kind == 1) k) l from by rw [exprW, if_neg (by simp [mkE]), if_pos (show (mkE 1 l).kind = 1 from rfl)]; rfl] at hl ⊢
      exact zexpr_and 0 0 0 0 0 false false false false false ⟨#[]⟩ ⟨#[]⟩ lv rv kv qv w0 w hbw m l hk (fun e he => ih e (b e he)) (fun k hk => wf_kind n k (b k hk)) hl
    | not k a =>
      rw [show exprW (n + 1) (mkE 2 [k]) = 33 :: roundW (exprW n) (k.kind != 3) k from by rw [exprW, if_neg (by simp [mkE]), if_neg (by simp [mkE]), if_pos (show (mkE 2 [k]).kind = 2 from rfl)]; rfl] at hl ⊢
      obtain ⟨A, cap, rfl, _, hG⟩ := RowG.get hk
      obtain ⟨b, off, kc, rfl, hbt, hkn, hra, hex⟩ := hG 0 k rfl
      have d3 := (exR_cells hex).2.2
      have hlk : (exprW n k).length ≤ 800000000 := by
        have h1 : (exprW n k).length ≤ (roundW (exprW n) (k.kind != 3) k).length := by unfold roundW; split <;> simp; omega
        simp only [List.length_cons] at hl; omega
      cases hkk : (k.kind != 3) with
      | true => rw [← hkk]; exact zexpr_not1 0 0 0 0 0 false false false false false ⟨#[]⟩ ⟨#[]⟩ lv rv qv w0 w hbw b off cap k kc hbt (by simpa using hra) hkn d3 (ih k a m kc hex) hlk hkk
      | false => rw [← hkk]; exact zexpr_not0 0 0 0 0 0 false false false false false ⟨#[]⟩ ⟨#[]⟩ lv rv qv w0 w hbw b off cap k kc hbt (by simpa using hra) hkn d3 (ih k a m kc hex) hlk hkk
    | test p a =>
      rw [show exprW (n + 1) (tstE p) = pathW (exprW n) p from by rw [exprW, if_neg (by simp [tstE]), if_neg (by simp [tstE]), if_neg (by simp [tstE]), if_pos (show (tstE p).kind = 3 from rfl)]; rfl] at hl ⊢
      exact zexpr_test 0 0 0 0 0 false false false false ⟨#[]⟩ ⟨#[]⟩ lv rv kv qv w0 w hbw hN m p a hq ih hl
    | cmp op a b a1 a2 a3 a4 a5 a6 =>
      rw [show exprW (n + 1) ⟨4, [], path0, op, a, b⟩ = sideW (exprW n) a ++ (32 :: (opB op ++ 32 :: sideW (exprW n) b)) from by rw [exprW, if_neg (by simp), if_neg (by simp), if_neg (by simp), if_neg (by simp)]] at hl ⊢
      exact zexpr_cmp op false lv rv kv qv w0 w hbw hN ih m a b a1 a2 a3 a4 hlv hrv hl
theorem zshowq_any {N : Nat} (hN : N ≤ 3000) (p : PathT) (v : Value) (m : Nat) (w : World) (hp : WfP (SS N) (WfN (SS N) 200) p) (hv : SegsG (Lw w) (ExR (Lw w) m w) w v p.segs) (hl : (showT p).length ≤ 800000000) : Calls Tryd.prog 8 #[.agg #[.bool p.abs, v]] w fun r w' => r = .returned (.string (bs (showT p))) ∧ Bel w.heap.size w w' :=
  zshow_any (by omega) w w (Bel.refl _ _) p v m hp hv (zexpr_all (N := N) (by omega) w 200) hl


end Go.Proofs.YtpcbcodmocmilaaDoor
