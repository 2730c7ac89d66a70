/- ref19: expr, but for or and and (printed by gen_cg.py). -/
import Derived.Test.YtpcbcodmocmilaaCf
import Derived.Test.YtpcbcodmocmilaaCb
namespace Go.Proofs.Ytpcbcodmocmilaa
open Go.RowKit

section
variable (B1 B2 B3 A4 A5 : Option Addr) (m1 d1 m2 d2 m3 d3 c4 c5 n4 nw : Nat) (xs wc : List Value) (w : World)
/-- More instructions, and more paths. -/
def MoreP (ls : List InsD) (nx : Nat) (wx : List Value) (e : Ending) (w' : World) : Prop :=
  ∃ A4' c4' A5' c5', e = .returned (.agg #[.slice B1 m1 d1, .slice B2 m2 d2, .slice B3 m3 d3, .slice A4' (n4 + ls.length) c4', .slice A5' (nw + nx) c5']) ∧ Rdd w' 7 A4' (n4 + ls.length) (xs ++ ls.flatMap insC) ∧ FrA w A4' ∧ Rdd w' 2 A5' (nw + nx) (wc ++ wx) ∧ FrA w A5' ∧ Bel w.heap.size w w'
section
variable (h4 : Rdd w 7 A4 n4 xs) (h5 : Rdd w 2 A5 nw wc) (h0 : ∀ u ∈ xs, u.oneCell' = true) (h1 : ∀ u ∈ wc, u.oneCell' = true) (hl : n4 ≤ 999990) (hlw : nw ≤ 999990)
include h4 h5 h0 h1 hl hlw

set_option maxRecDepth 100000 in
set_option maxHeartbeats 2000000 in
theorem rexpr_test (z1 z4 z5 z6 z7 z8 z9 z10 z11 z12 z13 z14 z15 z16 : Value) (qa : Bool) (qA : Option Addr) (qn qc : Nat) : Calls Try.prog 33 #[.agg #[.slice B1 m1 d1, .slice B2 m2 d2, .slice B3 m3 d3, .slice A4 n4 c4, .slice A5 nw c5], .agg #[.int .i64 3, z1, .bool qa, .slice qA qn qc, z4, z5, z6, z7, z8, z9, z10, z11, z12, z13, z14, z15, z16]] w (MoreP B1 B2 B3 m1 d1 m2 d2 m3 d3 n4 nw xs wc w [⟨0, nw, 0, 0, 0, ⟨#[]⟩, 0⟩] 1 [.bool qa, .slice qA qn qc]) := by
  have M := Lib.hid (Own.start [] w (fun y => Rdd y 7 A4 n4 xs ∧ Rdd y 2 A5 nw wc) fun y hy => ⟨h4.old hy, h5.old hy⟩)
  unfold MoreP
  clear h4 h5
  go_enter Try.func33, Try.ntmps33
  generalize hQ : bodyPost Try.prog Try.f33 _ = Q
  have HQ := Lib.hid hQ; clear hQ
  go_upto_region 24 with (first | ((with_reducible refine g_bx 70 2 ?_); refine l_bx rfl M.out ?_; clear M; intro g2 w' hg2 M; replace M := Lib.hid M.out.freeze) | ((with_reducible refine g_bx 98 3 ?_); refine l_bx rfl M.out ?_; clear M; intro g3 w' hg3 M; replace M := Lib.hid M.out.freeze) | ((with_reducible refine g_al 70 4 ?_); refine l_al F_M M.out ?_; clear M; intro g4 w' hg4 M) | ((with_reducible refine g_ld 3 ?_); refine l_ld1j O_int rfl M.out (fun y h => h.2) (by exact rfl) ?_))
  replace M := Lib.hid M.out.drew
  refine tb (fun y => ((Rdd y 7 A4 n4 xs ∧ Rdd y 2 A5 nw wc) ∧ Blk y g2 70 #[.slice B1 m1 d1, .slice B2 m2 d2, .slice B3 m3 d3, .slice A4 n4 c4, .slice A5 nw c5]) ∧ Blk y g3 98 #[.int .i64 3, z1, .bool qa, .slice qA qn qc, z4, z5, z6, z7, z8, z9, z10, z11, z12, z13, z14, z15, z16]) M.out.now ?_
  refine tk 0 rfl M.out.now (y_ld F_M _ _ rfl _ _ (fun _ h => h.1.2) rfl) ?_
  refine tkp 1 rfl M.out.now ?_
  refine tk 2 rfl M.out.now (y_ld1 O_sPath _ _ _ rfl _ _ (fun _ h => h.1.2) _ rfl) ?_
  refine tkp 3 rfl M.out.now ?_
  refine tkp 4 rfl M.out.now ?_
  refine tkp 6 rfl M.out.now ?_
  refine tk 7 rfl M.out.now (y_ldm F_Path _ _ _ rfl _ _ (fun _ h => h.2) _ rfl rfl) ?_
  refine tr [5] ?_
  refine rdy_call (rput_any B1 B2 B3 A4 A5 m1 d1 m2 d2 m3 d3 c4 nw c5 _ n4 xs (⟨0, nw, 0, 0, 0, ⟨#[]⟩, 0⟩) (by omega) h0 (M.out.now.1.1.1)) (i := 5) (op := .call _) rfl (by go_simp) ?_ ?_
  · rintro e w' ⟨Ax, cx, rfl, hrd, hfr, hb⟩; have Mn := M.out.addRd hb hrd hfr; have HF1 := Lib.hid (hfr.le M.out.size); replace M := Lib.hid Mn; clear Mn hb hrd hfr; refine ⟨_, rfl, ?_⟩; refine ⟨M.out.now.1, tn ?_⟩
    refine tr [8] ?_
    refine rdy_call (rmeet_any B1 B2 B3 Ax A5 m1 d1 m2 d2 m3 d3 cx nw c5 _ (n4 + 1) wc qa qA qn qc (by omega) h1 (M.out.now.1.1.1.2)) (i := 8) (op := .call _) rfl (by go_simp) ?_ ?_
    · rintro e w' ⟨Ay, cy, rfl, hrd, hfr, hb⟩; have Mn := M.out.addRd hb hrd hfr; have HF2 := Lib.hid (hfr.le M.out.size); replace M := Lib.hid Mn; clear Mn hb hrd hfr; refine ⟨_, rfl, ?_⟩; refine ⟨M.out.now.1.1, tn ?_⟩
      refine tr [9] ?_
      refine r_st F_M (i := 9) rfl rfl rfl M.out (by repeat constructor) (by exact rfl) (by exact rfl) (by exact rfl) ?_ ?_
      · clear M; intro w' M; refine ⟨M.out.now.1.1, tn ?_⟩
        refine te ?_
        go_wp2
        rw [← HQ.out]
        exact bodyPost_ret (results_1 Try.results33 _ _ g4 _ _ rfl (M.out.blk (g4, _, _) (by repeat constructor)) F_M rfl) rfl ⟨_, _, _, _, rfl, by have := M.out.now.1.2; simpa using this, HF1.out, M.out.now.2, HF2.out, M.out.bel0⟩
      exact .nil
    exact .nil
  exact .nil

set_option maxRecDepth 100000 in
set_option maxHeartbeats 2000000 in
theorem rexpr_cmpR (z1 z2 z3 z6 z7 z8 z11 z15 z16 : Value) (op rk rn : Int) (rs : ByteArray) (qa : Bool) (qA : Option Addr) (qn qc : Nat) : Calls Try.prog 33 #[.agg #[.slice B1 m1 d1, .slice B2 m2 d2, .slice B3 m3 d3, .slice A4 n4 c4, .slice A5 nw c5], .agg #[.int .i64 4, z1, z2, z3, .int .i64 op, .bool false, z6, z7, z8, .bool qa, .slice qA qn qc, z11, .int .i64 rk, .int .i64 rn, .string rs, z15, z16]] w (MoreP B1 B2 B3 m1 d1 m2 d2 m3 d3 n4 nw xs wc w [⟨1, nw, op, rk, rn, rs, 0⟩] 1 [.bool qa, .slice qA qn qc]) := by
  have M := Lib.hid (Own.start [] w (fun y => Rdd y 7 A4 n4 xs ∧ Rdd y 2 A5 nw wc) fun y hy => ⟨h4.old hy, h5.old hy⟩)
  unfold MoreP
  clear h4 h5
  go_enter Try.func33, Try.ntmps33
  generalize hQ : bodyPost Try.prog Try.f33 _ = Q
  have HQ := Lib.hid hQ; clear hQ
  go_upto_region 30 with (first | ((with_reducible refine g_bx 70 2 ?_); refine l_bx rfl M.out ?_; clear M; intro g2 w' hg2 M; replace M := Lib.hid M.out.freeze) | ((with_reducible refine g_bx 98 3 ?_); refine l_bx rfl M.out ?_; clear M; intro g3 w' hg3 M; replace M := Lib.hid M.out.freeze) | ((with_reducible refine g_al 70 4 ?_); refine l_al F_M M.out ?_; clear M; intro g4 w' hg4 M) | ((with_reducible refine g_ld 3 ?_); refine l_ld1j O_int rfl M.out (fun y h => h.2) (by exact rfl) ?_) | ((with_reducible refine g_ld 4 ?_); refine l_ld1j O_bool rfl M.out (fun y h => h.2) (by exact rfl) ?_) | ((with_reducible refine g_ld 2 ?_); refine l_ld1j O_i64 rfl M.out (fun y h => h.2) (by exact rfl) ?_) | ((with_reducible refine g_ld 9 ?_); refine l_ld1j O_str rfl M.out (fun y h => h.2) (by exact rfl) ?_) | ((with_reducible refine g_ld 68 ?_); refine l_ld1j O_sPath rfl M.out (fun y h => h.1.2) (by exact rfl) ?_) | ((with_reducible refine g_al 36 12 ?_); refine l_al F_Ins M.out ?_; clear M; intro g12 w' hg12 M) | ((with_reducible refine g_st 36 ?_); refine l_st F_Ins rfl rfl M.out (by repeat constructor) (by exact rfl) (by exact rfl) (by exact rfl) ?_; clear M; intro w' M; replace M := Lib.hid M.out.freeze))
  replace M := Lib.hid M.out.drew
  refine tb (fun y => (((Rdd y 7 A4 n4 xs ∧ Rdd y 2 A5 nw wc) ∧ Blk y g2 70 #[.slice B1 m1 d1, .slice B2 m2 d2, .slice B3 m3 d3, .slice A4 n4 c4, .slice A5 nw c5]) ∧ Blk y g3 98 #[.int .i64 4, z1, z2, z3, .int .i64 op, .bool false, z6, z7, z8, .bool qa, .slice qA qn qc, z11, .int .i64 rk, .int .i64 rn, .string rs, z15, z16]) ∧ Blk y g12 36 #[.int .i64 1, .int .i64 (nw : Int), .int .i64 op, .int .i64 rk, .int .i64 rn, .string rs, .int .i64 0]) M.out.now ?_
  refine tk 0 rfl M.out.now (y_ld F_M _ _ rfl _ _ (fun _ h => h.1.1.2) rfl) ?_
  refine tk 1 rfl M.out.now (y_ld F_Ins _ _ rfl _ _ (fun _ h => h.2) rfl) ?_
  refine tkp 3 rfl M.out.now ?_
  refine tkp 4 rfl M.out.now ?_
  refine tk 5 rfl M.out.now (y_ldm F_Path _ _ _ rfl _ _ (fun _ h => h.1.2) _ rfl rfl) ?_
  refine tr [2] ?_
  refine rdy_call (rput_any B1 B2 B3 A4 A5 m1 d1 m2 d2 m3 d3 c4 nw c5 _ n4 xs (⟨1, nw, op, rk, rn, rs, 0⟩) (by omega) h0 (M.out.now.1.1.1.1)) (i := 2) (op := .call _) rfl (by go_simp) ?_ ?_
  · rintro e w' ⟨Ax, cx, rfl, hrd, hfr, hb⟩; have Mn := M.out.addRd hb hrd hfr; have HF1 := Lib.hid (hfr.le M.out.size); replace M := Lib.hid Mn; clear Mn hb hrd hfr; refine ⟨_, rfl, ?_⟩; refine ⟨M.out.now.1, tn ?_⟩
    refine tr [6] ?_
    refine rdy_call (rmeet_any B1 B2 B3 Ax A5 m1 d1 m2 d2 m3 d3 cx nw c5 _ (n4 + 1) wc qa qA qn qc (by omega) h1 (M.out.now.1.1.1.1.2)) (i := 6) (op := .call _) rfl (by go_simp) ?_ ?_
    · rintro e w' ⟨Ay, cy, rfl, hrd, hfr, hb⟩; have Mn := M.out.addRd hb hrd hfr; have HF2 := Lib.hid (hfr.le M.out.size); replace M := Lib.hid Mn; clear Mn hb hrd hfr; refine ⟨_, rfl, ?_⟩; refine ⟨M.out.now.1.1, tn ?_⟩
      refine tr [7] ?_
      refine r_st F_M (i := 7) rfl rfl rfl M.out (by repeat constructor) (by exact rfl) (by exact rfl) (by exact rfl) ?_ ?_
      · clear M; intro w' M; refine ⟨M.out.now.1.1, tn ?_⟩
        refine te ?_
        go_wp2
        rw [← HQ.out]
        exact bodyPost_ret (results_1 Try.results33 _ _ g4 _ _ rfl (M.out.blk (g4, _, _) (by repeat constructor)) F_M rfl) rfl ⟨_, _, _, _, rfl, by have := M.out.now.1.2; simpa using this, HF1.out, M.out.now.2, HF2.out, M.out.bel0⟩
      exact .nil
    exact .nil
  exact .nil

set_option maxRecDepth 100000 in
set_option maxHeartbeats 2000000 in
theorem rexpr_cmpL (z1 z2 z3 z9 z10 z11 z12 z13 z14 : Value) (k : Nat) (hk : k < 6) (rk rn : Int) (rs : ByteArray) (qa : Bool) (qA : Option Addr) (qn qc : Nat) : Calls Try.prog 33 #[.agg #[.slice B1 m1 d1, .slice B2 m2 d2, .slice B3 m3 d3, .slice A4 n4 c4, .slice A5 nw c5], .agg #[.int .i64 4, z1, z2, z3, .int .i64 (k : Int), .bool true, .int .i64 rk, .int .i64 rn, .string rs, z9, z10, z11, z12, z13, z14, .bool qa, .slice qA qn qc]] w (MoreP B1 B2 B3 m1 d1 m2 d2 m3 d3 n4 nw xs wc w [⟨1, nw, turnS k, rk, rn, rs, 0⟩] 1 [.bool qa, .slice qA qn qc]) := by
  have hT : (#[.int .i64 0, .int .i64 1, .int .i64 4, .int .i64 5, .int .i64 2, .int .i64 3] : Array Value)[k]? = some (.int .i64 (turnS k)) := by
    match k, hk with
    | 0, _ => rfl
    | 1, _ => rfl
    | 2, _ => rfl
    | 3, _ => rfl
    | 4, _ => rfl
    | 5, _ => rfl
  have hkI : (k : Int) < 6 := by omega
  have M := Lib.hid (Own.start [] w (fun y => Rdd y 7 A4 n4 xs ∧ Rdd y 2 A5 nw wc) fun y hy => ⟨h4.old hy, h5.old hy⟩)
  unfold MoreP
  clear h4 h5
  go_enter Try.func33, Try.ntmps33
  generalize hQ : bodyPost Try.prog Try.f33 _ = Q
  have HQ := Lib.hid hQ; clear hQ
  go_upto_region 27 with (first | ((with_reducible refine g_bx 70 2 ?_); refine l_bx rfl M.out ?_; clear M; intro g2 w' hg2 M; replace M := Lib.hid M.out.freeze) | ((with_reducible refine g_bx 98 3 ?_); refine l_bx rfl M.out ?_; clear M; intro g3 w' hg3 M; replace M := Lib.hid M.out.freeze) | ((with_reducible refine g_al 70 4 ?_); refine l_al F_M M.out ?_; clear M; intro g4 w' hg4 M) | ((with_reducible refine g_ld 3 ?_); refine l_ld1j O_int rfl M.out (fun y h => h.2) (by exact rfl) ?_) | ((with_reducible refine g_ld 4 ?_); refine l_ld1j O_bool rfl M.out (fun y h => h.2) (by exact rfl) ?_) | ((with_reducible refine g_bs 75 103 ?_); refine l_bs SL_sint (cs := #[.int .i64 0, .int .i64 1, .int .i64 4, .int .i64 5, .int .i64 2, .int .i64 3]) (by kernel_rfl) M.out ?_; clear M; intro g103 w' hg103 M; replace M := Lib.hid M.out.freeze))
  replace M := Lib.hid M.out.drew
  refine tb (fun y => (((Rdd y 7 A4 n4 xs ∧ Rdd y 2 A5 nw wc) ∧ Blk y g2 70 #[.slice B1 m1 d1, .slice B2 m2 d2, .slice B3 m3 d3, .slice A4 n4 c4, .slice A5 nw c5]) ∧ Blk y g3 98 #[.int .i64 4, z1, z2, z3, .int .i64 (k : Int), .bool true, .int .i64 rk, .int .i64 rn, .string rs, z9, z10, z11, z12, z13, z14, .bool qa, .slice qA qn qc]) ∧ Blk y g103 3 #[.int .i64 0, .int .i64 1, .int .i64 4, .int .i64 5, .int .i64 2, .int .i64 3]) M.out.now ?_
  refine tkp 0 rfl M.out.now ?_
  refine tk 1 rfl M.out.now (y_ld1 O_sPath _ _ _ rfl _ _ (fun _ h => h.1.1.2) _ rfl) ?_
  refine tkp 2 rfl M.out.now ?_
  refine tkp 3 rfl M.out.now ?_
  refine tkp 4 rfl M.out.now ?_
  refine tk 5 rfl M.out.now (y_ld1 O_int _ _ _ rfl _ _ (fun _ h => h.1.2) _ rfl) ?_
  refine tkp 6 rfl M.out.now ?_
  refine tk 7 rfl M.out.now (y_ld1 O_int _ _ _ rfl _ _ (fun _ h => h.2) _ hT) ?_
  refine tkp 8 rfl M.out.now ?_
  refine tkp 9 rfl M.out.now ?_
  refine tk 10 rfl M.out.now (y_ld1 O_int _ _ _ rfl _ _ (fun _ h => h.1.2) _ rfl) ?_
  refine tkp 11 rfl M.out.now ?_
  refine tkp 12 rfl M.out.now ?_
  refine tk 13 rfl M.out.now (y_ld1 O_i64 _ _ _ rfl _ _ (fun _ h => h.1.2) _ rfl) ?_
  refine tkp 14 rfl M.out.now ?_
  refine tkp 15 rfl M.out.now ?_
  refine tk 16 rfl M.out.now (y_ld1 O_str _ _ _ rfl _ _ (fun _ h => h.1.2) _ rfl) ?_
  refine tkp 17 rfl M.out.now ?_
  refine tr [18] ?_
  refine r_al F_Ins (i := 18) rfl M.out ?_ ?_
  · clear M; intro g11 w' hg11 M; refine ⟨M.out.now, tn ?_⟩
    refine tr [19] ?_
    refine r_st F_Ins (i := 19) rfl rfl rfl M.out (by repeat constructor) (by exact rfl) (by exact rfl) (by exact rfl) ?_ ?_
    · clear M; intro w' M; refine ⟨M.out.now, tn ?_⟩
      refine te ?_
      replace M := Lib.hid M.out.freeze
      go_upto_region 28 with fail
      replace M := Lib.hid M.out.drew
      refine tb (fun y => ((((Rdd y 7 A4 n4 xs ∧ Rdd y 2 A5 nw wc) ∧ Blk y g2 70 #[.slice B1 m1 d1, .slice B2 m2 d2, .slice B3 m3 d3, .slice A4 n4 c4, .slice A5 nw c5]) ∧ Blk y g3 98 #[.int .i64 4, z1, z2, z3, .int .i64 (k : Int), .bool true, .int .i64 rk, .int .i64 rn, .string rs, z9, z10, z11, z12, z13, z14, .bool qa, .slice qA qn qc]) ∧ Blk y g103 3 #[.int .i64 0, .int .i64 1, .int .i64 4, .int .i64 5, .int .i64 2, .int .i64 3]) ∧ Blk y g11 36 #[.int .i64 1, .int .i64 (nw : Int), .int .i64 (turnS k), .int .i64 rk, .int .i64 rn, .string rs, .int .i64 0]) M.out.now ?_
      refine tk 0 rfl M.out.now (y_ld F_M _ _ rfl _ _ (fun _ h => h.1.1.1.2) rfl) ?_
      refine tk 1 rfl M.out.now (y_ld F_Ins _ _ rfl _ _ (fun _ h => h.2) rfl) ?_
      refine tkp 3 rfl M.out.now ?_
      refine tkp 4 rfl M.out.now ?_
      refine tk 5 rfl M.out.now (y_ldm F_Path _ _ _ rfl _ _ (fun _ h => h.1.1.2) _ rfl rfl) ?_
      refine tr [2] ?_
      refine rdy_call (rput_any B1 B2 B3 A4 A5 m1 d1 m2 d2 m3 d3 c4 nw c5 _ n4 xs (⟨1, nw, turnS k, rk, rn, rs, 0⟩) (by omega) h0 (M.out.now.1.1.1.1.1)) (i := 2) (op := .call _) rfl (by go_simp) ?_ ?_
      · rintro e w' ⟨Ax, cx, rfl, hrd, hfr, hb⟩; have Mn := M.out.addRd hb hrd hfr; have HF1 := Lib.hid (hfr.le M.out.size); replace M := Lib.hid Mn; clear Mn hb hrd hfr; refine ⟨_, rfl, ?_⟩; refine ⟨M.out.now.1, tn ?_⟩
        refine tr [6] ?_
        refine rdy_call (rmeet_any B1 B2 B3 Ax A5 m1 d1 m2 d2 m3 d3 cx nw c5 _ (n4 + 1) wc qa qA qn qc (by omega) h1 (M.out.now.1.1.1.1.1.2)) (i := 6) (op := .call _) rfl (by go_simp) ?_ ?_
        · rintro e w' ⟨Ay, cy, rfl, hrd, hfr, hb⟩; have Mn := M.out.addRd hb hrd hfr; have HF2 := Lib.hid (hfr.le M.out.size); replace M := Lib.hid Mn; clear Mn hb hrd hfr; refine ⟨_, rfl, ?_⟩; refine ⟨M.out.now.1.1, tn ?_⟩
          refine tr [7] ?_
          refine r_st F_M (i := 7) rfl rfl rfl M.out (by repeat constructor) (by exact rfl) (by exact rfl) (by exact rfl) ?_ ?_
          · clear M; intro w' M; refine ⟨M.out.now.1.1, tn ?_⟩
            refine te ?_
            go_wp2
            rw [← HQ.out]
            exact bodyPost_ret (results_1 Try.results33 _ _ g4 _ _ rfl (M.out.blk (g4, _, _) (by repeat constructor)) F_M rfl) rfl ⟨_, _, _, _, rfl, by have := M.out.now.1.2; simpa using this, HF1.out, M.out.now.2, HF2.out, M.out.bel0⟩
          exact .nil
        exact .nil
      exact .nil
    exact .nil
  exact .nil

omit h1 hl hlw in
set_option maxRecDepth 100000 in
set_option maxHeartbeats 2000000 in
theorem rexpr_not (z2 z3 z4 z5 z6 z7 z8 z9 z10 z11 z12 z13 z14 z15 z16 : Value) (b off qc : Nat) (kc : List Value) (hkc : kc.length = 17) (hr : w.rangeAt b off kc) (hb : b < w.heap.size) (ls : List InsD) (nx : Nat) (wx : List Value) (hn : n4 + ls.length ≤ 999990)
    (hK : ∀ w', Bel w.heap.size w w' → Calls Try.prog 33 #[.agg #[.slice B1 m1 d1, .slice B2 m2 d2, .slice B3 m3 d3, .slice A4 n4 c4, .slice A5 nw c5], .agg kc.toArray] w' (MoreP B1 B2 B3 m1 d1 m2 d2 m3 d3 n4 nw xs wc w' ls nx wx)) :
    Calls Try.prog 33 #[.agg #[.slice B1 m1 d1, .slice B2 m2 d2, .slice B3 m3 d3, .slice A4 n4 c4, .slice A5 nw c5], .agg #[.int .i64 2, .slice (some ⟨b, off, none⟩) 1 qc, z2, z3, z4, z5, z6, z7, z8, z9, z10, z11, z12, z13, z14, z15, z16]] w (MoreP B1 B2 B3 m1 d1 m2 d2 m3 d3 n4 nw xs wc w (ls ++ [⟨2, 0, 0, 0, 0, ⟨#[]⟩, 0⟩]) nx wx) := by
  have M := Lib.hid (Own.start [] w (fun y => (Rdd y 7 A4 n4 xs ∧ Rdd y 2 A5 nw wc) ∧ y.rangeAt b off kc) fun y hy => ⟨⟨h4.old hy, h5.old hy⟩, fun j v hv => (World.cell?_of_block (hy.2 b hb (by simp))).trans (hr j v hv)⟩)
  have h0' : ∀ u ∈ xs ++ ls.flatMap insC, u.oneCell' = true := fun u hu => (List.mem_append.1 hu).elim (h0 u) (ins_one1 ls u)
  unfold MoreP at hK ⊢
  have HK := Lib.hid hK
  clear h4 h5 hr hb h0 hK
  go_enter Try.func33, Try.ntmps33
  generalize hQ : bodyPost Try.prog Try.f33 _ = Q
  have HQ := Lib.hid hQ; clear hQ
  go_upto_region 22 with (first | ((with_reducible refine g_bx 70 2 ?_); refine l_bx rfl M.out ?_; clear M; intro g2 w' hg2 M; replace M := Lib.hid M.out.freeze) | ((with_reducible refine g_bx 98 3 ?_); refine l_bx rfl M.out ?_; clear M; intro g3 w' hg3 M; replace M := Lib.hid M.out.freeze) | ((with_reducible refine g_al 70 4 ?_); refine l_al F_M M.out ?_; clear M; intro g4 w' hg4 M) | ((with_reducible refine g_ld 3 ?_); refine l_ld1j O_int rfl M.out (fun y h => h.2) (by exact rfl) ?_))
  replace M := Lib.hid M.out.drew
  refine tb (fun y => (((Rdd y 7 A4 n4 xs ∧ Rdd y 2 A5 nw wc) ∧ y.rangeAt b off kc) ∧ Blk y g2 70 #[.slice B1 m1 d1, .slice B2 m2 d2, .slice B3 m3 d3, .slice A4 n4 c4, .slice A5 nw c5]) ∧ Blk y g3 98 #[.int .i64 2, .slice (some ⟨b, off, none⟩) 1 qc, z2, z3, z4, z5, z6, z7, z8, z9, z10, z11, z12, z13, z14, z15, z16]) M.out.now ?_
  refine tk 0 rfl M.out.now (y_ld F_M _ _ rfl _ _ (fun _ h => h.1.2) rfl) ?_
  refine tkp 1 rfl M.out.now ?_
  refine tk 2 rfl M.out.now (y_ld1 O_sEx _ _ _ rfl _ _ (fun _ h => h.2) _ rfl) ?_
  refine tkp 3 rfl M.out.now ?_
  refine tk 4 rfl M.out.now (y_ldf F_Ex _ _ _ rfl kc (fun _ h => h.1.1.2) hkc) ?_
  refine tkp 6 rfl M.out.now ?_
  refine tr [5] ?_
  refine rdy_call (HK.out _ M.out.bel0) (i := 5) (op := .call _) rfl (by go_simp) ?_ ?_
  · rintro e w' ⟨Ax, cx, Ay, cy, rfl, hr4, hf4, hr5, hf5, hb⟩; have Mn := (M.out.addRd hb hr4 hf4).add (J' := fun y => Rdd y 2 Ay (nw + nx) (wc ++ wx)) (fun y hy => hr5.kept hy fun a e _ hm => Nat.lt_irrefl _ (Nat.lt_of_lt_of_le (M.out.ex_lt hm) ((hf5 a e).1))); have HF1 := Lib.hid (hf4.le M.out.size); have HF2 := Lib.hid (hf5.le M.out.size); replace M := Lib.hid Mn; clear Mn hb hr4 hf4 hr5 hf5; refine ⟨_, rfl, ?_⟩; refine ⟨M.out.now.1.1, tn ?_⟩
    refine tr [7] ?_
    refine rdy_call (rput_any B1 B2 B3 Ax Ay m1 d1 m2 d2 m3 d3 cx (nw + nx) cy _ (n4 + ls.length) (xs ++ ls.flatMap insC) ⟨2, 0, 0, 0, 0, ⟨#[]⟩, 0⟩ (by omega) h0' (M.out.now.1.2)) (i := 7) (op := .call _) rfl (by go_simp) ?_ ?_
    · rintro e w' ⟨Az, cz, rfl, hrd, hfr, hb⟩; have Mn := M.out.addRd hb hrd hfr; have HF3 := Lib.hid (hfr.le M.out.size); replace M := Lib.hid Mn; clear Mn hb hrd hfr; refine ⟨_, rfl, ?_⟩; refine ⟨M.out.now.1.1.1, tn ?_⟩
      refine tr [8] ?_
      refine r_st F_M (i := 8) rfl rfl rfl M.out (by repeat constructor) (by exact rfl) (by exact rfl) (by exact rfl) ?_ ?_
      · clear M; intro w' M; refine ⟨M.out.now.1.1.1, tn ?_⟩
        refine te ?_
        go_wp2
        rw [← HQ.out]
        exact bodyPost_ret (results_1 Try.results33 _ _ g4 _ _ rfl (M.out.blk (g4, _, _) (by repeat constructor)) F_M rfl) rfl ⟨Az, cz, Ay, cy, by simp [Nat.add_assoc], by have := M.out.now.2; simpa [Nat.add_assoc, insC] using this, HF3.out, M.out.now.1.2, HF2.out, M.out.bel0⟩
      exact .nil
    exact .nil
  exact .nil

end
end

end Go.Proofs.Ytpcbcodmocmilaa
