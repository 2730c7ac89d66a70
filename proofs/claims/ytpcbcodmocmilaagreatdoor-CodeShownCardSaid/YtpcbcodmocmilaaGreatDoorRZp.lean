/- qshow: an expression whole; Show (printed by gen_zp.py). -/
import Derived.Test.YtpcbcodmocmilaaGreatDoorRZo
namespace Go.Proofs.YtpcbcodmocmilaaGreatDoor
open Go.RowKit

section
variable {w0 : World} {L : List BlkE} {rs : List RowE} {J : World → Prop} {N : Nat} {W : ExprT → Prop} {E : ExprT → List UInt8}
set_option maxRecDepth 100000 in
set_option maxHeartbeats 2000000 in
theorem ixop (op : Int) (h0 : 0 ≤ op) (h5 : op ≤ 5) (w : World) : (Instr.index 166 (.agg #[.string ⟨#[61, 61]⟩, .string ⟨#[33, 61]⟩, .string ⟨#[60]⟩, .string ⟨#[60, 61]⟩, .string ⟨#[62]⟩, .string ⟨#[62, 61]⟩]) (.int .i64 op)).run Tryz.prog w = .ok (.string (bs (opB op))) w := by
  have hop : op = 0 ∨ op = 1 ∨ op = 2 ∨ op = 3 ∨ op = 4 ∨ op = 5 := by omega
  rcases hop with rfl | rfl | rfl | rfl | rfl | rfl <;> rfl
set_option maxRecDepth 100000 in
set_option maxHeartbeats 2000000 in
theorem wexpr_not (op lk ln rk rn : Int) (q0 ll rl la ra : Bool) (ls rs_ : ByteArray) (lv rv _k q : Value) (b off cp : Nat) (e : ExprT) (kc : List Value) (hbt : b < w0.heap.size) (hra : w0.rangeAt b off kc) (hkn : kc.length = 17) (hk0 : kc[0]? = some (.int .i64 e.kind)) (hkw : KW w0 E e kc) (g : Nat) (t : List UInt8) (w : World) (h : WrS w0 w g 82 L rs J t) (hl : t.length + (33 :: roundW E (e.kind != 3) e).length ≤ 900000000) : Calls Tryz.prog 86 #[.pointer (some ⟨g, 0, none⟩), .agg #[.int .i64 2, .slice (some ⟨b, off, none⟩) 1 cp, .bool q0, q, .int .i64 op, .bool ll, .int .i64 lk, .int .i64 ln, .string ls, .bool la, lv, .bool rl, .int .i64 rk, .int .i64 rn, .string rs_, .bool ra, rv]] w (fun r w' => r = .returned (.tuple #[]) ∧ WrS w0 w' g 82 L rs J (t ++ 33 :: roundW E (e.kind != 3) e)) := by
  have M := Lib.hid h
  clear h
  have HBT := Lib.hid hbt
  have HRA := Lib.hid hra
  have HKN := Lib.hid hkn
  have HK0C := Lib.hid hk0
  have HKW := Lib.hid hkw
  clear hbt hra hkn hk0 hkw
  go_enter Tryz.func86, Tryz.ntmps86
  simp only [List.length_cons] at hl
  go_upto_region 20 with (first | ((with_reducible refine g_bx 106 3 ?_); refine l_bxW rfl M.out ?_; clear M; intro g3 w' M) | ((with_reducible refine g_ld 3 ?_); refine l_l1b O_int rfl (M.out.now.2) (rfl) ?_) | (go_at_call 56; (with_reducible refine (wwl_any [33] g 82 BT_w _ _ (by decide) _ M.out (by first | omega | (simp only [List.length_cons, List.length_nil]; omega))).mono ?_); rintro e w' ⟨rfl, hm⟩; replace M := Lib.hid hm; clear hm))
  replace M := Lib.hid M.out.drew
  refine tb (fun y => (J y ∧ Blk y g3 106 #[.int .i64 2, .slice (some ⟨b, off, none⟩) 1 cp, .bool q0, q, .int .i64 op, .bool ll, .int .i64 lk, .int .i64 ln, .string ls, .bool la, lv, .bool rl, .int .i64 rk, .int .i64 rn, .string rs_, .bool ra, rv]) ∧ y.rangeAt b off kc) ⟨M.out.now, fun j v hv => (World.cell?_of_block (M.out.bel0.block b HBT.out)).trans (HRA.out j v hv)⟩ ?_
  refine tkp 0 rfl ⟨M.out.now, fun j v hv => (World.cell?_of_block (M.out.bel0.block b HBT.out)).trans (HRA.out j v hv)⟩ ?_
  refine tkp 1 rfl ⟨M.out.now, fun j v hv => (World.cell?_of_block (M.out.bel0.block b HBT.out)).trans (HRA.out j v hv)⟩ ?_
  refine tk 2 rfl ⟨M.out.now, fun j v hv => (World.cell?_of_block (M.out.bel0.block b HBT.out)).trans (HRA.out j v hv)⟩ (y_ld1 O_sEx _ g3 1 rfl _ _ (fun y h => h.1.2) _ rfl) ?_
  refine tkp 3 rfl ⟨M.out.now, fun j v hv => (World.cell?_of_block (M.out.bel0.block b HBT.out)).trans (HRA.out j v hv)⟩ ?_
  refine tk 4 rfl ⟨M.out.now, fun j v hv => (World.cell?_of_block (M.out.bel0.block b HBT.out)).trans (HRA.out j v hv)⟩ (y_ldf F_Ex _ b off rfl kc (fun y h => h.2) HKN.out) ?_
  refine tkp 5 rfl ⟨M.out.now, fun j v hv => (World.cell?_of_block (M.out.bel0.block b HBT.out)).trans (HRA.out j v hv)⟩ ?_
  refine tk 6 rfl ⟨M.out.now, fun j v hv => (World.cell?_of_block (M.out.bel0.block b HBT.out)).trans (HRA.out j v hv)⟩ (y_ld1 O_sEx _ g3 1 rfl _ _ (fun y h => h.1.2) _ rfl) ?_
  refine tkp 7 rfl ⟨M.out.now, fun j v hv => (World.cell?_of_block (M.out.bel0.block b HBT.out)).trans (HRA.out j v hv)⟩ ?_
  refine tkp 8 rfl ⟨M.out.now, fun j v hv => (World.cell?_of_block (M.out.bel0.block b HBT.out)).trans (HRA.out j v hv)⟩ ?_
  refine tk 9 rfl ⟨M.out.now, fun j v hv => (World.cell?_of_block (M.out.bel0.block b HBT.out)).trans (HRA.out j v hv)⟩ (y_ldc O_int _ b off rfl (.int .i64 e.kind) (fun y h => h.2 0 _ HK0C.out)) ?_
  refine tkp 10 rfl ⟨M.out.now, fun j v hv => (World.cell?_of_block (M.out.bel0.block b HBT.out)).trans (HRA.out j v hv)⟩ ?_
  refine tr [11] ?_
  refine rdy_call (wround_eq e kc HKN.out HKW.out (e.kind != 3) _ rfl g _ _ M.out (by first | omega | (simp only [List.length_append, List.length_cons, List.length_nil]; omega))) (i := 11) (op := .call _) rfl (by go_simp) ?_ ?_
  · rintro e_ w' ⟨rfl, hm⟩; replace M := Lib.hid hm; clear hm; refine ⟨_, rfl, ?_⟩; refine ⟨⟨M.out.now, fun j v hv => (World.cell?_of_block (M.out.bel0.block b HBT.out)).trans (HRA.out j v hv)⟩, tn ?_⟩
    refine te ?_
    go_wp2
    go_end0
    exact ⟨rfl, by have h := M.out.imp (J' := J) fun y h => h.1; simpa using h⟩
  exact .nil
set_option maxRecDepth 100000 in
set_option maxHeartbeats 2000000 in
theorem wexpr_cmp (op : Int) (q0 : Bool) (lv rv k q : Value) (hN : N ≤ 100000000) (hE : ∀ e, W e → EW w0 E e) (ht : Tab w0) (m : Nat) (a b : SideT) (ho1 : 0 ≤ op) (ho2 : op ≤ 5) (ha : WfSide (SS N) W a) (hb : WfSide (SS N) W b) (hva : SegsG (Lw w0) (ExR (Lw w0) m w0) w0 lv a.p.segs) (hvb : SegsG (Lw w0) (ExR (Lw w0) m w0) w0 rv b.p.segs) (g : Nat) (t : List UInt8) (w : World) (h : WrS w0 w g 82 L rs J t) (hl : t.length + ((sideW E a ++ (32 :: (opB op ++ 32 :: sideW E b)))).length ≤ 900000000) : Calls Tryz.prog 86 #[.pointer (some ⟨g, 0, none⟩), .agg #[.int .i64 4, k, .bool q0, q, .int .i64 op, .bool a.lit, .int .i64 a.kind, .int .i64 a.n, .string (bs a.s), .bool a.p.abs, lv, .bool b.lit, .int .i64 b.kind, .int .i64 b.n, .string (bs b.s), .bool b.p.abs, rv]] w (fun r w' => r = .returned (.tuple #[]) ∧ WrS w0 w' g 82 L rs J (t ++ (sideW E a ++ (32 :: (opB op ++ 32 :: sideW E b))))) := by
  have M := Lib.hid h
  clear h
  have HT := Lib.hid ht
  have HE := Lib.hid hE
  clear ht hE
  have HA := Lib.hid ha
  have HB := Lib.hid hb
  have HVA := Lib.hid hva
  have HVB := Lib.hid hvb
  clear ha hb hva hvb
  go_enter Tryz.func86, Tryz.ntmps86
  let qd := bodyPost Tryz.prog Tryz.f86 (fun _ _ => True)
  simp only [List.length_append, List.length_cons] at hl
  go_upto_region 25 with (first | ((with_reducible refine g_bx 106 3 ?_); refine l_bxW rfl M.out ?_; clear M; intro g3 w' M) | ((with_reducible refine g_ld 3 ?_); refine l_l1b O_int rfl (M.out.now.2) (rfl) ?_) | ((with_reducible refine g_ld 104 ?_); refine l_ldf F_Sd rfl (range_own (o := 5) (n := 6) (M.out.now.2) (part := (sideL a lv)) rfl) rfl ?_) | (go_at_call 109; (with_reducible refine (wside_any hN a lv m HA.out HVA.out HE.out HT.out g _ _ M.out (by omega)).mono ?_); rintro e w' ⟨rfl, hm⟩; replace M := Lib.hid hm; clear hm))
  (try simp only [Act.put, List.setIfInBounds_toArray, List.set_cons_zero, List.set_cons_succ])
  go_cut [91, 92, 93, 94, 95, 96, 97, 98, 99, 100] (fun _ _ _ _ _ _ _ _ _ _ wx => Hid (WrS w0 wx g 82 L rs (fun y => J y ∧ Blk y g3 106 #[.int .i64 4, k, .bool q0, q, .int .i64 op, .bool a.lit, .int .i64 a.kind, .int .i64 a.n, .string (bs a.s), .bool a.p.abs, lv, .bool b.lit, .int .i64 b.kind, .int .i64 b.n, .string (bs b.s), .bool b.p.abs, rv]) (t ++ sideW E a ++ (32 :: (opB op ++ [32])))))
  case first =>
    have hsa : (t ++ sideW E a).length ≤ 900000000 := by rw [List.length_append]; omega
    replace M := Lib.hid M.out.drew
    refine tb (fun y => J y ∧ Blk y g3 106 #[.int .i64 4, k, .bool q0, q, .int .i64 op, .bool a.lit, .int .i64 a.kind, .int .i64 a.n, .string (bs a.s), .bool a.p.abs, lv, .bool b.lit, .int .i64 b.kind, .int .i64 b.n, .string (bs b.s), .bool b.p.abs, rv]) M.out.now ?_
    refine tkp 0 rfl M.out.now ?_
    refine tkp 1 rfl M.out.now ?_
    refine tkp 2 rfl M.out.now ?_
    refine tkp 3 rfl M.out.now ?_
    refine tkp 4 rfl M.out.now ?_
    refine tk 5 rfl M.out.now (y_ld1 O_int _ g3 4 rfl _ _ (fun y h => h.2) _ rfl) ?_
    refine tkp 6 rfl M.out.now ?_ (v := .string (bs (opB op))) (hv := by intro w hS; go_simp; rw [ixop op ho1 ho2]; rfl)
    refine tkp 7 rfl M.out.now ?_ (v := .string (bs (32 :: opB op))) (hv := by intro w hS; go_simp; rw [if_neg (show ¬ 9223372036854775807 < 1 + (bs (opB op)).size by rw [bs_size2]; have := opB_len op; omega)]; exact congrArg (fun s => Result.ok (Next.value (Value.string s)) w) (bs_app2 [32] (opB op)))
    refine tkp 8 rfl M.out.now ?_ (v := .string (bs (32 :: (opB op ++ [32])))) (hv := by intro w hS; go_simp; rw [if_neg (show ¬ 9223372036854775807 < (bs (32 :: opB op)).size + 1 by rw [bs_size2, List.length_cons]; have := opB_len op; omega)]; exact congrArg (fun s => Result.ok (Next.value (Value.string s)) w) (bs_app2 (32 :: opB op) [32]))
    refine tr [9] ?_
    refine rdy_call (wwsl_any (32 :: (opB op ++ [32])) g 82 BT_w _ _ M.out (by have := opB_len op; simp only [List.length_append, List.length_cons, List.length_nil] at hsa ⊢; omega)) (i := 9) (op := .call _) rfl (by go_simp) ?_ ?_
    · rintro e_ w' ⟨rfl, hm⟩; replace M := Lib.hid hm; clear hm; refine ⟨_, rfl, ?_⟩; refine ⟨M.out.now, tn ?_⟩
      refine te ?_
      go_wp2
      go_meet
      case rel => exact Lib.hid M.out
    exact .nil
  case rest =>
    clear M
    have M := hcut
    clear hcut
    go_wp2_with (first | ((with_reducible refine g_ld 104 ?_); refine l_ldf F_Sd rfl (range_own (o := 11) (n := 6) (M.out.now.2) (part := (sideL b rv)) rfl) rfl ?_) | (go_at_call 109; (with_reducible refine (wside_any hN b rv m HB.out HVB.out HE.out HT.out g _ _ M.out (by simp only [List.length_append, List.length_cons, List.length_nil]; omega)).mono ?_); rintro e w' ⟨rfl, hm⟩; replace M := Lib.hid hm; clear hm))
    go_end0
    exact ⟨rfl, by have h := M.out.imp (J' := J) fun y h => h.1; simpa using h⟩
end
theorem exR_cells {w0 : World} {m : Nat} {cs : List Value} {e : ExprT} (h : ExR (Lw w0) m w0 cs e) : cs.length = 17 ∧ allOne cs = true ∧ cs[0]? = some (.int .i64 e.kind) := by
  cases m with
  | zero => exact h.elim
  | succ m =>
    obtain ⟨kv, qv, lv, rv, rfl, ⟨Ak, ck, rfl, _⟩, ⟨Aq, cq, rfl, _⟩, ⟨Al, cl, rfl, _⟩, ⟨Ar, cr, rfl, _⟩⟩ := h
    exact ⟨rfl, rfl, rfl⟩
theorem wexpr_all {N : Nat} (hN : N ≤ 100000000) (w0 : World) (ht : Tab w0) : ∀ (n : Nat) (x : ExprT), WfN (SS N) n x → EW w0 (exprW n) x
  | 0, _, h => h.elim
  | n + 1, x, h => fun m cs hx => by
    have h' : WfX (SS N) (WfN (SS N) n) x := h
    have ih := wexpr_all hN w0 ht n
    obtain ⟨c1, c2, c3⟩ := exR_cells hx
    refine ⟨c1, c2, c3, fun g L rs J t w hw hl => ?_⟩
    obtain ⟨m, rfl⟩ : ∃ k, m = k + 1 := by
      cases m with
      | zero => exact hx.elim
      | succ m => exact ⟨m, rfl⟩
    obtain ⟨kv, qv, lv, rv, rfl, hk, hq, hlv, hrv⟩ := hx
    cases h' with
    | or l a b =>
      rw [show exprW (n + 1) (mkE 0 l) = joinW [32, 124, 124, 32] (fun k => roundW (exprW n) (k.kind == 0) k) l from by rw [exprW, if_pos (show (mkE 0 l).kind = 0 from rfl)]; rfl] at hl ⊢
      exact wexpr_or 0 0 0 0 0 false false false false false ⟨#[]⟩ ⟨#[]⟩ lv rv kv qv m l hk (fun e he => ih e (b e he)) g t w hw hl
    | and l a b =>
      rw [show exprW (n + 1) (mkE 1 l) = joinW [32, 38, 38, 32] (fun k => roundW (exprW n) (k.kind == 0 || k.kind == 1) k) l from by rw [exprW, if_neg (by simp [mkE]), if_pos (show (mkE 1 l).kind = 1 from rfl)]; rfl] at hl ⊢
      exact wexpr_and 0 0 0 0 0 false false false false false ⟨#[]⟩ ⟨#[]⟩ lv rv kv qv m l hk (fun e he => ih e (b e he)) g t w hw hl
    | not k a =>
      rw [show exprW (n + 1) (mkE 2 [k]) = 33 :: roundW (exprW n) (k.kind != 3) k from by rw [exprW, if_neg (by simp [mkE]), if_neg (by simp [mkE]), if_pos (show (mkE 2 [k]).kind = 2 from rfl)]; rfl] at hl ⊢
      obtain ⟨A, cap, rfl, _, hG⟩ := RowG.get hk
      obtain ⟨b, off, kc, rfl, hbt, hkn, hra, hex⟩ := hG 0 k rfl
      obtain ⟨d1, d2, d3, d4⟩ := ih k a m kc hex
      exact wexpr_not 0 0 0 0 0 false false false false false ⟨#[]⟩ ⟨#[]⟩ lv rv (.slice none 0 0) qv b off cap k kc hbt (by simpa using hra) hkn d3 d4 g t w hw hl
    | test p a =>
      rw [show exprW (n + 1) (tstE p) = pathW (exprW n) p from by rw [exprW, if_neg (by simp [tstE]), if_neg (by simp [tstE]), if_neg (by simp [tstE]), if_pos (show (tstE p).kind = 3 from rfl)]; rfl] at hl ⊢
      exact wexpr_test 0 0 0 0 0 false false false false false ⟨#[]⟩ ⟨#[]⟩ lv rv kv qv hN ih ht m p a hq g t w hw hl
    | cmp op a b a1 a2 a3 a4 a5 a6 =>
      rw [show exprW (n + 1) ⟨4, [], path0, op, a, b⟩ = sideW (exprW n) a ++ (32 :: (opB op ++ 32 :: sideW (exprW n) b)) from by rw [exprW, if_neg (by simp), if_neg (by simp), if_neg (by simp), if_neg (by simp)]] at hl ⊢
      exact wexpr_cmp op false lv rv kv qv hN ih ht m a b a1 a2 a3 a4 hlv hrv g t w hw hl
set_option maxRecDepth 100000 in
set_option maxHeartbeats 2000000 in
theorem wshow_any {N : Nat} (hN : N ≤ 3000) (p : PathT) (v : Value) (m : Nat) (w : World) (hp : WfP (SS N) (WfN (SS N) 200) p) (hv : SegsG (Lw w) (ExR (Lw w) m w) w v p.segs) (ht : Tab w) (hl : (showT p).length ≤ 900000000) : Calls Tryz.prog 18 #[.agg #[.bool p.abs, v]] w fun e w' => e = .returned (.string (bs (showT p))) ∧ Bel w.heap.size w w' := by
  have hE := wexpr_all (N := N) (by omega) w ht 200
  have M := Lib.hid (Own.start [] w (fun _ => True) fun _ _ => trivial)
  have HP := Lib.hid hp
  have HV := Lib.hid hv
  have HT := Lib.hid ht
  have HE := Lib.hid hE
  have hN' : N ≤ 100000000 := by omega
  clear hp hv ht hE
  go_enter Tryz.func18, Tryz.ntmps18
  go_upto_region 2 with (first | ((with_reducible refine g_bx 37 1 ?_); refine l_bx rfl M.out ?_; clear M; intro g1 w' hg1 M; replace M := Lib.hid M.out.freeze) | ((with_reducible refine g_al 82 3 ?_); refine l_al F_Wr M.out ?_; clear M; intro g3 w' hg3 M))
  replace M := Lib.hid (WrS.new M.out)
  have hne : showT p ≠ [] := by unfold showT pathW; simp
  have HS := Lib.hid (show pathW (exprW 200) p = showT p from rfl)
  have hl2 : ([] : List UInt8).length + (pathW (exprW 200) p).length ≤ 900000000 := by rw [HS.out]; simpa using hl
  go_wp2_with (first | ((with_reducible refine g_ld 37 ?_); refine l_lb F_Path rfl (M.out.now.2) rfl ?_) | (go_at_call 34; (with_reducible refine (wpath_any hN' p v m HP.out HV.out HE.out HT.out g3 _ _ M.out hl2).mono ?_); rintro e w' ⟨rfl, hm⟩; replace M := Lib.hid hm; clear hm; rw [List.nil_append, HS.out] at M) | (go_at_call 35; (with_reducible refine (wst_any g3 _ _ _ M.out hne (by omega)).mono ?_); rintro e w' ⟨rfl, hb⟩; have HB := Lib.hid hb; clear hb))
  go_ret
  exact ⟨rfl, HB.out⟩

end Go.Proofs.YtpcbcodmocmilaaGreatDoor
