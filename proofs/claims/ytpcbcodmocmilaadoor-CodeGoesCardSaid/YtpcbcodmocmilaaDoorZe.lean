/- code: sel (printed by gen_ze.py). -/
import Derived.Test.YtpcbcodmocmilaaDoorZd
namespace Go.Proofs.YtpcbcodmocmilaaDoor
open Go.RowKit

theorem SL_sPex : SlF Tryd.prog 122 68 1 8 (.pointer none) := ⟨Tryd.underlying122, by kernel_rfl, rfl, by decide⟩
set_option maxRecDepth 100000 in
set_option maxHeartbeats 2000000 in
theorem msel_nm (nm : ByteArray) (w : World) : Calls Tryd.prog 58 #[.agg #[.int .i64 0, .string nm, .int .i64 0, .int .i64 0, .int .i64 0, .int .i64 0, .bool false, .bool false, .pointer none]] w fun e w' => e = .returned (.agg #[.int .i64 0, .string nm, .int .i64 0, .int .i64 0, .int .i64 0, .bool false, .bool false, .int .i64 0]) ∧ Bel w.heap.size w w' := by
  have M := Lib.hid (Own.start [] w (fun _ => True) fun _ _ => trivial)
  go_enter Tryd.func58, Tryd.ntmps58
  generalize hQ : bodyPost Tryd.prog Tryd.f58 _ = Q
  have HQ := Lib.hid hQ; clear hQ
  let qd := bodyPost Tryd.prog Tryd.f58 (fun _ _ => True)
  go_wp2_with (first | ((with_reducible refine g_bx 70 1 ?_); refine l_bx rfl M.out ?_; clear M; intro g1 w' hg1 M; replace M := Lib.hid M.out.freeze) | ((with_reducible refine g_al 46 2 ?_); refine l_al F_CSel M.out ?_; clear M; intro g2 w' hg2 M) | ((with_reducible refine g_al 46 3 ?_); refine l_al F_CSel M.out ?_; clear M; intro g3 w' hg3 M) | ((with_reducible refine g_ld 3 ?_); refine l_ld1j O_int rfl M.out (fun y h => h.2) (by exact rfl) ?_) | ((with_reducible refine g_ld 9 ?_); refine l_ld1j O_str rfl M.out (fun y h => h.2) (by exact rfl) ?_) | ((with_reducible refine g_ld 2 ?_); refine l_ld1j O_i64 rfl M.out (fun y h => h.2) (by exact rfl) ?_) | ((with_reducible refine g_ld 46 ?_); refine l_ld F_CSel rfl M.out (by repeat constructor) (by exact rfl) ?_) | ((with_reducible refine g_st 46 ?_); refine l_st (cs := #[.int .i64 0, .string nm, .int .i64 0, .int .i64 0, .int .i64 0, .bool false, .bool false, .int .i64 0]) F_CSel rfl rfl M.out (by repeat constructor) (by exact rfl) (by exact rfl) (by exact rfl) ?_; clear M; intro w' M) | ((with_reducible refine g_st 46 ?_); refine l_st (cs := #[.int .i64 0, .string nm, .int .i64 0, .int .i64 0, .int .i64 0, .bool false, .bool false, .int .i64 0]) F_CSel rfl rfl M.out (by repeat constructor) (by exact rfl) (by exact rfl) (by exact rfl) ?_; clear M; intro w' M))
  rw [← HQ.out]
  exact bodyPost_ret (results_1 Tryd.results58 _ _ g2 _ _ rfl (M.out.blk (g2, _, _) (by repeat constructor)) F_CSel rfl) rfl ⟨rfl, M.out.bel0⟩
set_option maxRecDepth 100000 in
set_option maxHeartbeats 2000000 in
theorem msel_wild  (w : World) : Calls Tryd.prog 58 #[.agg #[.int .i64 1, .string ⟨#[]⟩, .int .i64 0, .int .i64 0, .int .i64 0, .int .i64 0, .bool false, .bool false, .pointer none]] w fun e w' => e = .returned (.agg #[.int .i64 1, .string ⟨#[]⟩, .int .i64 0, .int .i64 0, .int .i64 0, .bool false, .bool false, .int .i64 0]) ∧ Bel w.heap.size w w' := by
  have M := Lib.hid (Own.start [] w (fun _ => True) fun _ _ => trivial)
  go_enter Tryd.func58, Tryd.ntmps58
  generalize hQ : bodyPost Tryd.prog Tryd.f58 _ = Q
  have HQ := Lib.hid hQ; clear hQ
  let qd := bodyPost Tryd.prog Tryd.f58 (fun _ _ => True)
  go_wp2_with (first | ((with_reducible refine g_bx 70 1 ?_); refine l_bx rfl M.out ?_; clear M; intro g1 w' hg1 M; replace M := Lib.hid M.out.freeze) | ((with_reducible refine g_al 46 2 ?_); refine l_al F_CSel M.out ?_; clear M; intro g2 w' hg2 M) | ((with_reducible refine g_al 46 3 ?_); refine l_al F_CSel M.out ?_; clear M; intro g3 w' hg3 M) | ((with_reducible refine g_ld 3 ?_); refine l_ld1j O_int rfl M.out (fun y h => h.2) (by exact rfl) ?_) | ((with_reducible refine g_ld 9 ?_); refine l_ld1j O_str rfl M.out (fun y h => h.2) (by exact rfl) ?_) | ((with_reducible refine g_ld 2 ?_); refine l_ld1j O_i64 rfl M.out (fun y h => h.2) (by exact rfl) ?_) | ((with_reducible refine g_ld 46 ?_); refine l_ld F_CSel rfl M.out (by repeat constructor) (by exact rfl) ?_) | ((with_reducible refine g_st 46 ?_); refine l_st (cs := #[.int .i64 1, .string ⟨#[]⟩, .int .i64 0, .int .i64 0, .int .i64 0, .bool false, .bool false, .int .i64 0]) F_CSel rfl rfl M.out (by repeat constructor) (by exact rfl) (by exact rfl) (by exact rfl) ?_; clear M; intro w' M) | ((with_reducible refine g_st 46 ?_); refine l_st (cs := #[.int .i64 1, .string ⟨#[]⟩, .int .i64 0, .int .i64 0, .int .i64 0, .bool false, .bool false, .int .i64 0]) F_CSel rfl rfl M.out (by repeat constructor) (by exact rfl) (by exact rfl) (by exact rfl) ?_; clear M; intro w' M))
  rw [← HQ.out]
  exact bodyPost_ret (results_1 Tryd.results58 _ _ g2 _ _ rfl (M.out.blk (g2, _, _) (by repeat constructor)) F_CSel rfl) rfl ⟨rfl, M.out.bel0⟩
set_option maxRecDepth 100000 in
set_option maxHeartbeats 2000000 in
theorem msel_idx (n : Int) (w : World) : Calls Tryd.prog 58 #[.agg #[.int .i64 2, .string ⟨#[]⟩, .int .i64 n, .int .i64 0, .int .i64 0, .int .i64 0, .bool false, .bool false, .pointer none]] w fun e w' => e = .returned (.agg #[.int .i64 2, .string ⟨#[]⟩, .int .i64 n, .int .i64 0, .int .i64 0, .bool false, .bool false, .int .i64 0]) ∧ Bel w.heap.size w w' := by
  have M := Lib.hid (Own.start [] w (fun _ => True) fun _ _ => trivial)
  go_enter Tryd.func58, Tryd.ntmps58
  generalize hQ : bodyPost Tryd.prog Tryd.f58 _ = Q
  have HQ := Lib.hid hQ; clear hQ
  let qd := bodyPost Tryd.prog Tryd.f58 (fun _ _ => True)
  go_wp2_with (first | ((with_reducible refine g_bx 70 1 ?_); refine l_bx rfl M.out ?_; clear M; intro g1 w' hg1 M; replace M := Lib.hid M.out.freeze) | ((with_reducible refine g_al 46 2 ?_); refine l_al F_CSel M.out ?_; clear M; intro g2 w' hg2 M) | ((with_reducible refine g_al 46 3 ?_); refine l_al F_CSel M.out ?_; clear M; intro g3 w' hg3 M) | ((with_reducible refine g_ld 3 ?_); refine l_ld1j O_int rfl M.out (fun y h => h.2) (by exact rfl) ?_) | ((with_reducible refine g_ld 9 ?_); refine l_ld1j O_str rfl M.out (fun y h => h.2) (by exact rfl) ?_) | ((with_reducible refine g_ld 2 ?_); refine l_ld1j O_i64 rfl M.out (fun y h => h.2) (by exact rfl) ?_) | ((with_reducible refine g_ld 46 ?_); refine l_ld F_CSel rfl M.out (by repeat constructor) (by exact rfl) ?_) | ((with_reducible refine g_st 2 ?_); refine l_st1 (v := .int .i64 n) O_i64 rfl rfl (by exact rfl) M.out (by repeat constructor) ?_; clear M; intro w' M) | ((with_reducible refine g_st 46 ?_); refine l_st (cs := #[.int .i64 2, .string ⟨#[]⟩, .int .i64 0, .int .i64 0, .int .i64 0, .bool false, .bool false, .int .i64 0]) F_CSel rfl rfl M.out (by repeat constructor) (by exact rfl) (by exact rfl) (by exact rfl) ?_; clear M; intro w' M) | ((with_reducible refine g_st 46 ?_); refine l_st (cs := #[.int .i64 2, .string ⟨#[]⟩, .int .i64 n, .int .i64 0, .int .i64 0, .bool false, .bool false, .int .i64 0]) F_CSel rfl rfl M.out (by repeat constructor) (by exact rfl) (by exact rfl) (by exact rfl) ?_; clear M; intro w' M))
  rw [← HQ.out]
  exact bodyPost_ret (results_1 Tryd.results58 _ _ g2 _ _ rfl (M.out.blk (g2, _, _) (by repeat constructor)) F_CSel rfl) rfl ⟨rfl, M.out.bel0⟩
set_option maxRecDepth 100000 in
set_option maxHeartbeats 2000000 in
theorem msel_slice (a b c : Int) (ha hb : Bool) (w : World) : Calls Tryd.prog 58 #[.agg #[.int .i64 3, .string ⟨#[]⟩, .int .i64 0, .int .i64 a, .int .i64 b, .int .i64 c, .bool ha, .bool hb, .pointer none]] w fun e w' => e = .returned (.agg #[.int .i64 3, .string ⟨#[]⟩, .int .i64 a, .int .i64 b, .int .i64 c, .bool ha, .bool hb, .int .i64 0]) ∧ Bel w.heap.size w w' := by
  have M := Lib.hid (Own.start [] w (fun _ => True) fun _ _ => trivial)
  go_enter Tryd.func58, Tryd.ntmps58
  generalize hQ : bodyPost Tryd.prog Tryd.f58 _ = Q
  have HQ := Lib.hid hQ; clear hQ
  let qd := bodyPost Tryd.prog Tryd.f58 (fun _ _ => True)
  go_upto_region 6 with (first | ((with_reducible refine g_bx 70 1 ?_); refine l_bx rfl M.out ?_; clear M; intro g1 w' hg1 M; replace M := Lib.hid M.out.freeze) | ((with_reducible refine g_al 46 2 ?_); refine l_al F_CSel M.out ?_; clear M; intro g2 w' hg2 M) | ((with_reducible refine g_al 46 3 ?_); refine l_al F_CSel M.out ?_; clear M; intro g3 w' hg3 M) | ((with_reducible refine g_ld 3 ?_); refine l_ld1j O_int rfl M.out (fun y h => h.2) (by exact rfl) ?_) | ((with_reducible refine g_ld 9 ?_); refine l_ld1j O_str rfl M.out (fun y h => h.2) (by exact rfl) ?_) | ((with_reducible refine g_ld 2 ?_); refine l_ld1j O_i64 rfl M.out (fun y h => h.2) (by exact rfl) ?_) | ((with_reducible refine g_ld 46 ?_); refine l_ld F_CSel rfl M.out (by repeat constructor) (by exact rfl) ?_) | ((with_reducible refine g_st 46 ?_); refine l_st (cs := #[.int .i64 3, .string ⟨#[]⟩, .int .i64 0, .int .i64 0, .int .i64 0, .bool false, .bool false, .int .i64 0]) F_CSel rfl rfl M.out (by repeat constructor) (by exact rfl) (by exact rfl) (by exact rfl) ?_; clear M; intro w' M))
  replace M := Lib.hid M.out.drew
  refine tb (fun y => True ∧ Blk y g1 70 #[.int .i64 3, .string ⟨#[]⟩, .int .i64 0, .int .i64 a, .int .i64 b, .int .i64 c, .bool ha, .bool hb, .pointer none]) M.out.now ?_
  refine tkp 0 rfl M.out.now ?_
  refine tk 1 rfl M.out.now (y_ld1 O_i64 _ g1 3 rfl _ _ (fun y h => h.2) _ rfl) ?_
  refine tkp 2 rfl M.out.now ?_
  refine tk 3 rfl M.out.now (y_ld1 O_i64 _ g1 4 rfl _ _ (fun y h => h.2) _ rfl) ?_
  refine tkp 4 rfl M.out.now ?_
  refine tk 5 rfl M.out.now (y_ld1 O_i64 _ g1 5 rfl _ _ (fun y h => h.2) _ rfl) ?_
  refine tkp 6 rfl M.out.now ?_
  refine tk 7 rfl M.out.now (y_ld1 O_bool _ g1 6 rfl _ _ (fun y h => h.2) _ rfl) ?_
  refine tkp 8 rfl M.out.now ?_
  refine tk 9 rfl M.out.now (y_ld1 O_bool _ g1 7 rfl _ _ (fun y h => h.2) _ rfl) ?_
  refine tkp 10 rfl M.out.now ?_
  refine tr [11] ?_
  refine r_st1 O_i64 (v := .int .i64 a) (i := 11) rfl rfl rfl rfl M.out (by repeat constructor) ?_ ?_
  · clear M; intro w' M; refine ⟨M.out.now, tn ?_⟩
    refine tkp 12 rfl M.out.now ?_
    refine tr [13] ?_
    refine r_st1 O_i64 (v := .int .i64 b) (i := 13) rfl rfl rfl rfl M.out (by repeat constructor) ?_ ?_
    · clear M; intro w' M; refine ⟨M.out.now, tn ?_⟩
      refine tkp 14 rfl M.out.now ?_
      refine tr [15] ?_
      refine r_st1 O_i64 (v := .int .i64 c) (i := 15) rfl rfl rfl rfl M.out (by repeat constructor) ?_ ?_
      · clear M; intro w' M; refine ⟨M.out.now, tn ?_⟩
        refine tkp 16 rfl M.out.now ?_
        refine tr [17] ?_
        refine r_st1 O_bool (v := .bool ha) (i := 17) rfl rfl rfl rfl M.out (by repeat constructor) ?_ ?_
        · clear M; intro w' M; refine ⟨M.out.now, tn ?_⟩
          refine tkp 18 rfl M.out.now ?_
          refine tr [19] ?_
          refine r_st1 O_bool (v := .bool hb) (i := 19) rfl rfl rfl rfl M.out (by repeat constructor) ?_ ?_
          · clear M; intro w' M; refine ⟨M.out.now, tn ?_⟩
            refine te ?_
            go_wp2_with (first | ((with_reducible refine g_ld 46 ?_); refine l_ld F_CSel rfl M.out (by repeat constructor) (by exact rfl) ?_) | ((with_reducible refine g_st 46 ?_); refine l_st (cs := #[.int .i64 3, .string ⟨#[]⟩, .int .i64 a, .int .i64 b, .int .i64 c, .bool ha, .bool hb, .int .i64 0]) F_CSel rfl rfl M.out (by repeat constructor) (by exact rfl) (by exact rfl) (by exact rfl) ?_; clear M; intro w' M))
            rw [← HQ.out]
            exact bodyPost_ret (results_1 Tryd.results58 _ _ g2 _ _ rfl (M.out.blk (g2, _, _) (by repeat constructor)) F_CSel rfl) rfl ⟨rfl, M.out.bel0⟩
          exact .nil
        exact .nil
      exact .nil
    exact .nil
  exact .nil
set_option maxRecDepth 100000 in
set_option maxHeartbeats 2000000 in
theorem msel_filt (q : Option Addr) (w : World) : Calls Tryd.prog 58 #[.agg #[.int .i64 4, .string ⟨#[]⟩, .int .i64 0, .int .i64 0, .int .i64 0, .int .i64 0, .bool false, .bool false, .pointer q]] w fun e w' => e = .returned (.agg #[.int .i64 4, .string ⟨#[]⟩, .int .i64 0, .int .i64 0, .int .i64 0, .bool false, .bool false, .int .i64 0]) ∧ Bel w.heap.size w w' := by
  have M := Lib.hid (Own.start [] w (fun _ => True) fun _ _ => trivial)
  go_enter Tryd.func58, Tryd.ntmps58
  generalize hQ : bodyPost Tryd.prog Tryd.f58 _ = Q
  have HQ := Lib.hid hQ; clear hQ
  let qd := bodyPost Tryd.prog Tryd.f58 (fun _ _ => True)
  go_wp2_with (first | ((with_reducible refine g_bx 70 1 ?_); refine l_bx rfl M.out ?_; clear M; intro g1 w' hg1 M; replace M := Lib.hid M.out.freeze) | ((with_reducible refine g_al 46 2 ?_); refine l_al F_CSel M.out ?_; clear M; intro g2 w' hg2 M) | ((with_reducible refine g_al 46 3 ?_); refine l_al F_CSel M.out ?_; clear M; intro g3 w' hg3 M) | ((with_reducible refine g_ld 3 ?_); refine l_ld1j O_int rfl M.out (fun y h => h.2) (by exact rfl) ?_) | ((with_reducible refine g_ld 9 ?_); refine l_ld1j O_str rfl M.out (fun y h => h.2) (by exact rfl) ?_) | ((with_reducible refine g_ld 2 ?_); refine l_ld1j O_i64 rfl M.out (fun y h => h.2) (by exact rfl) ?_) | ((with_reducible refine g_ld 46 ?_); refine l_ld F_CSel rfl M.out (by repeat constructor) (by exact rfl) ?_) | ((with_reducible refine g_st 46 ?_); refine l_st (cs := #[.int .i64 4, .string ⟨#[]⟩, .int .i64 0, .int .i64 0, .int .i64 0, .bool false, .bool false, .int .i64 0]) F_CSel rfl rfl M.out (by repeat constructor) (by exact rfl) (by exact rfl) (by exact rfl) ?_; clear M; intro w' M) | ((with_reducible refine g_st 46 ?_); refine l_st (cs := #[.int .i64 4, .string ⟨#[]⟩, .int .i64 0, .int .i64 0, .int .i64 0, .bool false, .bool false, .int .i64 0]) F_CSel rfl rfl M.out (by repeat constructor) (by exact rfl) (by exact rfl) (by exact rfl) ?_; clear M; intro w' M))
  rw [← HQ.out]
  exact bodyPost_ret (results_1 Tryd.results58 _ _ g2 _ _ rfl (M.out.blk (g2, _, _) (by repeat constructor)) F_CSel rfl) rfl ⟨rfl, M.out.bel0⟩
theorem msel_any {S : List UInt8 → Prop} {W : ExprT → Prop} {z : SelT × Option Addr} (h : WfS S W z.1) (hq : z.1.kind ≠ 4 → z.2 = none) (w : World) : Calls Tryd.prog 58 #[.agg (yC z).toArray] w fun e w' => e = .returned (.agg (selC (selD z.1 0)).toArray) ∧ Bel w.heap.size w w' := by
  obtain ⟨y, q⟩ := z
  simp only at h hq
  cases h with
  | nm s a =>
    obtain rfl := hq (by simp)
    exact msel_nm (bs s) w
  | wild =>
    obtain rfl := hq (by simp)
    exact msel_wild w
  | idx n a =>
    obtain rfl := hq (by simp)
    rw [show selC (selD (⟨2, [], n, 0, 0, 0, false, false, none⟩ : SelT) 0) = [.int .i64 2, .string ⟨#[]⟩, .int .i64 n, .int .i64 0, .int .i64 0, .bool false, .bool false, .int .i64 0] from by unfold selC selD; simp only [Int.add_zero]; rfl]
    exact msel_idx n w
  | slice a b c ha hb a1 a2 a3 a4 a5 =>
    obtain rfl := hq (by simp)
    rw [show selC (selD (⟨3, [], 0, a, b, c, ha, hb, none⟩ : SelT) 0) = [.int .i64 3, .string ⟨#[]⟩, .int .i64 a, .int .i64 b, .int .i64 c, .bool ha, .bool hb, .int .i64 0] from by unfold selC selD; simp only [Int.zero_add]; rfl]
    exact msel_slice a b c ha hb w
  | filt e a => exact msel_filt q w


end Go.Proofs.YtpcbcodmocmilaaDoor
