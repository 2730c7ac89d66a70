/- qshow: a side, an expression are written; Show (printed by gen_zo.py). -/
import Derived.Test.YtpcbcodmocmilaaGreatDoorRG28
namespace Go.Proofs.YtpcbcodmocmilaaGreatDoor
open Go.RowKit

section
variable {w0 : World} {L : List BlkE} {rs : List RowE} {J : World → Prop} {N : Nat} {W : ExprT → Prop} {E : ExprT → List UInt8}
set_option maxRecDepth 100000 in
set_option maxHeartbeats 2000000 in
theorem wside_path (hN : N ≤ 100000000) (p : PathT) (v : Value) (m : Nat) (hp : WfP (SS N) W p) (hv : SegsG (Lw w0) (ExR (Lw w0) m w0) w0 v p.segs) (hE : ∀ e, W e → EW w0 E e) (ht : Tab w0) (g : Nat) (t : List UInt8) (w : World) (h : WrS w0 w g 82 L rs J t) (hl : t.length + (pathW E p).length ≤ 900000000) : Calls Tryz.prog 109 #[.pointer (some ⟨g, 0, none⟩), .agg #[.bool false, .int .i64 0, .int .i64 0, .string ⟨#[]⟩, .bool p.abs, v]] w (fun r w' => r = .returned (.tuple #[]) ∧ WrS w0 w' g 82 L rs J (t ++ pathW E p)) := by
  have M := Lib.hid h
  clear h
  have HT := Lib.hid ht
  have HP := Lib.hid hp
  have HV := Lib.hid hv
  have HE := Lib.hid hE
  clear ht hp hv hE
  go_enter Tryz.func109, Tryz.ntmps109
  go_wp2_with (first | ((with_reducible refine g_bx 104 3 ?_); refine l_bxW rfl M.out ?_; clear M; intro g3 w' M) | ((with_reducible refine g_ld 4 ?_); refine l_l1b O_bool rfl (M.out.now.2) (rfl) ?_) | ((with_reducible refine g_ld 3 ?_); refine l_l1b O_int rfl (M.out.now.2) (rfl) ?_) | ((with_reducible refine g_ld 37 ?_); refine l_ldf F_Path rfl (range_own (o := 4) (n := 2) (M.out.now.2) (part := [.bool p.abs, v]) rfl) rfl ?_) | (go_at_call 34; (with_reducible refine (wpath_any hN p v m HP.out HV.out HE.out HT.out g _ _ M.out hl).mono ?_); rintro e w' ⟨rfl, hm⟩; replace M := Lib.hid hm; clear hm))
  go_end0
  exact ⟨rfl, by have h := M.out.imp (J' := J) fun y h => h.1; simpa using h⟩
set_option maxRecDepth 100000 in
set_option maxHeartbeats 2000000 in
theorem wside_null (v : Value) (g : Nat) (t : List UInt8) (w : World) (h : WrS w0 w g 82 L rs J t) (hl : t.length + ([110, 117, 108, 108]).length ≤ 900000000) : Calls Tryz.prog 109 #[.pointer (some ⟨g, 0, none⟩), .agg #[.bool true, .int .i64 0, .int .i64 0, .string ⟨#[]⟩, .bool false, v]] w (fun r w' => r = .returned (.tuple #[]) ∧ WrS w0 w' g 82 L rs J (t ++ [110, 117, 108, 108])) := by
  have M := Lib.hid h
  clear h
  go_enter Tryz.func109, Tryz.ntmps109
  go_wp2_with (first | ((with_reducible refine g_bx 104 3 ?_); refine l_bxW rfl M.out ?_; clear M; intro g3 w' M) | ((with_reducible refine g_ld 4 ?_); refine l_l1b O_bool rfl (M.out.now.2) (rfl) ?_) | ((with_reducible refine g_ld 3 ?_); refine l_l1b O_int rfl (M.out.now.2) (rfl) ?_) | (go_at_call 56; (with_reducible refine (wwl_any [110, 117, 108, 108] g 82 BT_w _ _ (by decide) _ M.out (by first | omega | (simp only [List.length_append, List.length_cons, List.length_nil] at hl ⊢; omega))).mono ?_); rintro e w' ⟨rfl, hm⟩; replace M := Lib.hid hm; clear hm))
  go_end0
  exact ⟨rfl, by have h := M.out.imp (J' := J) fun y h => h.1; simpa using h⟩
set_option maxRecDepth 100000 in
set_option maxHeartbeats 2000000 in
theorem wside_num (v : Value) (n : Int) (hn : okN n) (ht : Tab w0) (g : Nat) (t : List UInt8) (w : World) (h : WrS w0 w g 82 L rs J t) (hl : t.length + (intL n).length ≤ 900000000) : Calls Tryz.prog 109 #[.pointer (some ⟨g, 0, none⟩), .agg #[.bool true, .int .i64 2, .int .i64 n, .string ⟨#[]⟩, .bool false, v]] w (fun r w' => r = .returned (.tuple #[]) ∧ WrS w0 w' g 82 L rs J (t ++ intL n)) := by
  have M := Lib.hid h
  clear h
  have HT := Lib.hid ht
  clear ht
  go_enter Tryz.func109, Tryz.ntmps109
  go_wp2_with (first | ((with_reducible refine g_bx 104 3 ?_); refine l_bxW rfl M.out ?_; clear M; intro g3 w' M) | ((with_reducible refine g_ld 4 ?_); refine l_l1b O_bool rfl (M.out.now.2) (rfl) ?_) | ((with_reducible refine g_ld 3 ?_); refine l_l1b O_int rfl (M.out.now.2) (rfl) ?_) | ((with_reducible refine g_ld 2 ?_); refine l_l1b O_i64 rfl (M.out.now.2) (rfl) ?_) | (go_at_call 84; (with_reducible refine (wint_any n hn HT.out g _ _ M.out (by (try simp only [List.length_append, List.length_cons, List.length_nil]); omega)).mono ?_); rintro e w' ⟨rfl, hm⟩; replace M := Lib.hid hm; clear hm))
  go_end0
  exact ⟨rfl, by have h := M.out.imp (J' := J) fun y h => h.1; simpa using h⟩
set_option maxRecDepth 100000 in
set_option maxHeartbeats 2000000 in
theorem wside_str (v : Value) (s : List UInt8) (hs : s.length ≤ 100000000) (hr : runU 0 s = 0) (g : Nat) (t : List UInt8) (w : World) (h : WrS w0 w g 82 L rs J t) (hl : t.length + (txtL 39 s).length ≤ 900000000) : Calls Tryz.prog 109 #[.pointer (some ⟨g, 0, none⟩), .agg #[.bool true, .int .i64 3, .int .i64 0, .string (bs s), .bool false, v]] w (fun r w' => r = .returned (.tuple #[]) ∧ WrS w0 w' g 82 L rs J (t ++ txtL 39 s)) := by
  have M := Lib.hid h
  clear h
  go_enter Tryz.func109, Tryz.ntmps109
  go_wp2_with (first | ((with_reducible refine g_bx 104 3 ?_); refine l_bxW rfl M.out ?_; clear M; intro g3 w' M) | ((with_reducible refine g_ld 4 ?_); refine l_l1b O_bool rfl (M.out.now.2) (rfl) ?_) | ((with_reducible refine g_ld 3 ?_); refine l_l1b O_int rfl (M.out.now.2) (rfl) ?_) | ((with_reducible refine g_ld 9 ?_); refine l_l1b O_str rfl (M.out.now.2) (rfl) ?_) | (go_at_call 83; (with_reducible refine (wtext_any s hs hr g _ _ M.out (by omega)).mono ?_); rintro e w' ⟨rfl, hm⟩; replace M := Lib.hid hm; clear hm))
  go_end0
  exact ⟨rfl, by have h := M.out.imp (J' := J) fun y h => h.1; simpa using h⟩
set_option maxRecDepth 100000 in
set_option maxHeartbeats 2000000 in
theorem wside_tru (v : Value) (g : Nat) (t : List UInt8) (w : World) (h : WrS w0 w g 82 L rs J t) (hl : t.length + ([116, 114, 117, 101]).length ≤ 900000000) : Calls Tryz.prog 109 #[.pointer (some ⟨g, 0, none⟩), .agg #[.bool true, .int .i64 1, .int .i64 1, .string ⟨#[]⟩, .bool false, v]] w (fun r w' => r = .returned (.tuple #[]) ∧ WrS w0 w' g 82 L rs J (t ++ [116, 114, 117, 101])) := by
  have M := Lib.hid h
  clear h
  go_enter Tryz.func109, Tryz.ntmps109
  go_upto_region 9 with (first | ((with_reducible refine g_bx 104 3 ?_); refine l_bxW rfl M.out ?_; clear M; intro g3 w' M) | ((with_reducible refine g_ld 4 ?_); refine l_l1b O_bool rfl (M.out.now.2) (rfl) ?_) | ((with_reducible refine g_ld 3 ?_); refine l_l1b O_int rfl (M.out.now.2) (rfl) ?_))
  replace M := Lib.hid M.out.drew
  refine tb (fun y => J y ∧ Blk y g3 104 #[.bool true, .int .i64 1, .int .i64 1, .string ⟨#[]⟩, .bool false, v]) M.out.now ?_
  refine tkp 0 rfl M.out.now ?_
  refine tkp 1 rfl M.out.now ?_
  refine tkp 2 rfl M.out.now ?_
  refine tkp 3 rfl M.out.now ?_
  refine tk 4 rfl M.out.now (y_ld1 O_i64 _ g3 2 rfl _ _ (fun y h => h.2) _ rfl) ?_
  refine tkp 5 rfl M.out.now ?_
  refine tr [6] ?_
  refine rdy_call (fmtb_any true _) (i := 6) (op := .call _) rfl (by go_simp) ?_ ?_
  · rintro e_ w' ⟨rfl, rfl⟩; refine ⟨_, rfl, ?_⟩; refine ⟨M.out.now, tn ?_⟩
    refine tr [7] ?_
    refine rdy_call (wwsl_any [116, 114, 117, 101] g 82 BT_w t _ M.out (by first | omega | (simp only [List.length_append, List.length_cons, List.length_nil] at hl ⊢; omega))) (i := 7) (op := .call _) rfl (by go_simp) ?_ ?_
    · rintro e_ w' ⟨rfl, hm⟩; replace M := Lib.hid hm; clear hm; refine ⟨_, rfl, ?_⟩; refine ⟨M.out.now, tn ?_⟩
      refine te ?_
      go_wp2
      go_end0
      exact ⟨rfl, by have h := M.out.imp (J' := J) fun y h => h.1; simpa using h⟩
    exact .nil
  exact .nil
set_option maxRecDepth 100000 in
set_option maxHeartbeats 2000000 in
theorem wside_fls (v : Value) (g : Nat) (t : List UInt8) (w : World) (h : WrS w0 w g 82 L rs J t) (hl : t.length + ([102, 97, 108, 115, 101]).length ≤ 900000000) : Calls Tryz.prog 109 #[.pointer (some ⟨g, 0, none⟩), .agg #[.bool true, .int .i64 1, .int .i64 0, .string ⟨#[]⟩, .bool false, v]] w (fun r w' => r = .returned (.tuple #[]) ∧ WrS w0 w' g 82 L rs J (t ++ [102, 97, 108, 115, 101])) := by
  have M := Lib.hid h
  clear h
  go_enter Tryz.func109, Tryz.ntmps109
  go_upto_region 9 with (first | ((with_reducible refine g_bx 104 3 ?_); refine l_bxW rfl M.out ?_; clear M; intro g3 w' M) | ((with_reducible refine g_ld 4 ?_); refine l_l1b O_bool rfl (M.out.now.2) (rfl) ?_) | ((with_reducible refine g_ld 3 ?_); refine l_l1b O_int rfl (M.out.now.2) (rfl) ?_))
  replace M := Lib.hid M.out.drew
  refine tb (fun y => J y ∧ Blk y g3 104 #[.bool true, .int .i64 1, .int .i64 0, .string ⟨#[]⟩, .bool false, v]) M.out.now ?_
  refine tkp 0 rfl M.out.now ?_
  refine tkp 1 rfl M.out.now ?_
  refine tkp 2 rfl M.out.now ?_
  refine tkp 3 rfl M.out.now ?_
  refine tk 4 rfl M.out.now (y_ld1 O_i64 _ g3 2 rfl _ _ (fun y h => h.2) _ rfl) ?_
  refine tkp 5 rfl M.out.now ?_
  refine tr [6] ?_
  refine rdy_call (fmtb_any false _) (i := 6) (op := .call _) rfl (by go_simp) ?_ ?_
  · rintro e_ w' ⟨rfl, rfl⟩; refine ⟨_, rfl, ?_⟩; refine ⟨M.out.now, tn ?_⟩
    refine tr [7] ?_
    refine rdy_call (wwsl_any [102, 97, 108, 115, 101] g 82 BT_w t _ M.out (by first | omega | (simp only [List.length_append, List.length_cons, List.length_nil] at hl ⊢; omega))) (i := 7) (op := .call _) rfl (by go_simp) ?_ ?_
    · rintro e_ w' ⟨rfl, hm⟩; replace M := Lib.hid hm; clear hm; refine ⟨_, rfl, ?_⟩; refine ⟨M.out.now, tn ?_⟩
      refine te ?_
      go_wp2
      go_end0
      exact ⟨rfl, by have h := M.out.imp (J' := J) fun y h => h.1; simpa using h⟩
    exact .nil
  exact .nil
theorem wside_any (hN : N ≤ 100000000) (x : SideT) (v : Value) (m : Nat) (hx : WfSide (SS N) W x) (hv : SegsG (Lw w0) (ExR (Lw w0) m w0) w0 v x.p.segs) (hE : ∀ e, W e → EW w0 E e) (ht : Tab w0) (g : Nat) (t : List UInt8) (w : World) (h : WrS w0 w g 82 L rs J t) (hl : t.length + (sideW E x).length ≤ 900000000) : Calls Tryz.prog 109 #[.pointer (some ⟨g, 0, none⟩), .agg (sideL x v).toArray] w (fun r w' => r = .returned (.tuple #[]) ∧ WrS w0 w' g 82 L rs J (t ++ sideW E x)) := by
  cases hx with
  | path p a => exact wside_path hN p v m a hv hE ht g t w h hl
  | null => exact wside_null v g t w h hl
  | tru => exact wside_tru v g t w h hl
  | fls => exact wside_fls v g t w h hl
  | num n a =>
    rw [show sideW E ⟨true, 2, n, [], path0⟩ = intL n from by unfold sideW; simp] at hl ⊢
    exact wside_num v n a ht g t w h hl
  | str s a =>
    rw [show sideW E ⟨true, 3, 0, s, path0⟩ = txtL 39 s from by unfold sideW; simp] at hl ⊢
    exact wside_str v s (Nat.le_trans a.1 hN) a.2 g t w h hl

set_option maxRecDepth 100000 in
set_option maxHeartbeats 2000000 in
theorem wround_any (e : ExprT) (kc : List Value) (hkn : kc.length = 17) (hk : KW w0 E e kc) (b : Bool) (g : Nat) (t : List UInt8) (w : World) (h : WrS w0 w g 82 L rs J t) (hl : t.length + (roundW E b e).length ≤ 900000000) : Calls Tryz.prog 108 #[.pointer (some ⟨g, 0, none⟩), .agg kc.toArray, .bool b] w (fun r w' => r = .returned (.tuple #[]) ∧ WrS w0 w' g 82 L rs J (t ++ roundW E b e)) := by
  have M := Lib.hid h
  have HKS := Lib.hid (show kc.toArray.size = 17 from by simpa using hkn)
  unfold KW at hk
  have HK := Lib.hid hk
  clear h hk hkn
  cases b
  all_goals
    unfold roundW at hl ⊢
    simp only [if_true, if_false, Bool.false_eq_true, List.length_cons, List.length_append, List.length_nil] at hl
    go_enter Tryz.func108, Tryz.ntmps108
    go_wp2_with (first | ((with_reducible refine g_bx 106 4 ?_); refine l_bxW rfl M.out ?_; clear M; intro g4 w' M) | ((with_reducible refine g_ld 106 ?_); refine l_lb F_Ex rfl (M.out.now.2) HKS.out ?_) | (go_at_call 56; (with_reducible refine (wwl_any [40] g 82 BT_w _ _ (by decide) _ M.out (by first | omega | (simp only [List.length_cons, List.length_nil]; omega))).mono ?_); rintro e w' ⟨rfl, hm⟩; replace M := Lib.hid hm; clear hm) | (go_at_call 56; (with_reducible refine (wwl_any [41] g 82 BT_w _ _ (by decide) _ M.out (by first | omega | (simp only [List.length_append, List.length_cons, List.length_nil]; omega))).mono ?_); rintro e w' ⟨rfl, hm⟩; replace M := Lib.hid hm; clear hm) | (go_at_call 86; (with_reducible refine (HK.out g _ _ _ _ _ M.out (by first | omega | (simp only [List.length_append, List.length_cons, List.length_nil]; omega))).mono ?_); rintro e w' ⟨rfl, hm⟩; replace M := Lib.hid hm; clear hm))
    go_end0
    exact ⟨rfl, by have h := M.out.imp (J' := J) fun y h => h.1; simpa using h⟩
set_option maxRecDepth 100000 in
set_option maxHeartbeats 2000000 in
theorem wround_eq (e : ExprT) (kc : List Value) (hkn : kc.length = 17) (hk : KW w0 E e kc) (b b' : Bool) (hb : b' = b) (g : Nat) (t : List UInt8) (w : World) (h : WrS w0 w g 82 L rs J t) (hl : t.length + (roundW E b e).length ≤ 900000000) : Calls Tryz.prog 108 #[.pointer (some ⟨g, 0, none⟩), .agg kc.toArray, .bool b'] w (fun r w' => r = .returned (.tuple #[]) ∧ WrS w0 w' g 82 L rs J (t ++ roundW E b e)) := by
  subst hb
  exact wround_any e kc hkn hk _ g t w h hl
theorem l_l1bg {P : Program} {w : World} {ops : Array Oper} {rest : List Oper} {a : Act} {Q : Exit → Act → World → Prop} {tt : TypeId} {pos : String} {af : Array Edge} {ty : TypeId} (F : OneF P ty) {gd : Nat × Bool} {dst : Option Tmp} {x : Operand} {k j : Nat} {T' : TypeId} {cs : Array Value} {v : Value} (hw : Region.wanted ⟨dst, .load ty x, tt, pos, af, some gd⟩ (yielded ops a.tmps) = true) (hx : a.eval x = .pointer (some ⟨k, j, none⟩)) (hb : Blk w k T' cs) (hv : cs[j]? = some v)
    (h : wpList P ops Q rest (a.put dst v) w) : wpList P ops Q (⟨dst, .load ty x, tt, pos, af, some gd⟩ :: rest) a w :=
  wpList_step fun _ hK => by rw [if_pos hw]; exact o_ld1 F hx ((hb.cell j).trans hv) (hK _ _ h)
set_option maxRecDepth 100000 in
set_option maxHeartbeats 2000000 in
theorem wexpr_test (op lk ln rk rn : Int) (_ ll rl la ra : Bool) (ls rs_ : ByteArray) (lv rv k q : Value) (hN : N ≤ 100000000) (hE : ∀ e, W e → EW w0 E e) (ht : Tab w0) (m : Nat) (p : PathT) (hp : WfP (SS N) W p) (hv : SegsG (Lw w0) (ExR (Lw w0) m w0) w0 q p.segs) (g : Nat) (t : List UInt8) (w : World) (h : WrS w0 w g 82 L rs J t) (hl : t.length + (pathW E p).length ≤ 900000000) : Calls Tryz.prog 86 #[.pointer (some ⟨g, 0, none⟩), .agg #[.int .i64 3, k, .bool p.abs, q, .int .i64 op, .bool ll, .int .i64 lk, .int .i64 ln, .string ls, .bool la, lv, .bool rl, .int .i64 rk, .int .i64 rn, .string rs_, .bool ra, rv]] w (fun r w' => r = .returned (.tuple #[]) ∧ WrS w0 w' g 82 L rs J (t ++ pathW E p)) := by
  have M := Lib.hid h
  clear h
  have HT := Lib.hid ht
  have HE := Lib.hid hE
  clear ht hE
  have HP := Lib.hid hp
  have HV := Lib.hid hv
  clear hp hv
  go_enter Tryz.func86, Tryz.ntmps86
  go_wp2_with (first | ((with_reducible refine g_bx 106 3 ?_); refine l_bxW rfl M.out ?_; clear M; intro g3 w' M) | ((with_reducible refine g_ld 3 ?_); refine l_l1b O_int rfl (M.out.now.2) (rfl) ?_) | ((with_reducible refine g_ld 37 ?_); refine l_ldf F_Path rfl (range_own (o := 2) (n := 2) (M.out.now.2) (part := [.bool p.abs, q]) rfl) rfl ?_) | (go_at_call 34; (with_reducible refine (wpath_any hN p q m HP.out HV.out HE.out HT.out g _ _ M.out hl).mono ?_); rintro e w' ⟨rfl, hm⟩; replace M := Lib.hid hm; clear hm))
  go_end0
  exact ⟨rfl, by have h := M.out.imp (J' := J) fun y h => h.1; simpa using h⟩
set_option maxRecDepth 100000 in
set_option maxHeartbeats 2000000 in
theorem wexpr_or (op lk ln rk rn : Int) (q0 ll rl la ra : Bool) (ls rs_ : ByteArray) (lv rv k q : Value) (m : Nat) (kids : List ExprT) (hrow : RowG (Lw w0) 17 (ExR (Lw w0) m w0) w0 k kids) (hE : ∀ e ∈ kids, EW w0 E e) (g : Nat) (t : List UInt8) (w : World) (h : WrS w0 w g 82 L rs J t) (hl : t.length + (joinW [32, 124, 124, 32] (fun k => roundW E (k.kind == 0) k) kids).length ≤ 900000000) : Calls Tryz.prog 86 #[.pointer (some ⟨g, 0, none⟩), .agg #[.int .i64 0, k, .bool q0, q, .int .i64 op, .bool ll, .int .i64 lk, .int .i64 ln, .string ls, .bool la, lv, .bool rl, .int .i64 rk, .int .i64 rn, .string rs_, .bool ra, rv]] w (fun r w' => r = .returned (.tuple #[]) ∧ WrS w0 w' g 82 L rs J (t ++ joinW [32, 124, 124, 32] (fun k => roundW E (k.kind == 0) k) kids)) := by
  have M := Lib.hid h
  clear h
  obtain ⟨A, cap, rfl, hsl, hG⟩ := RowG.get hrow
  unfold EW at hE
  have HG := Lib.hid hG
  have HEK := Lib.hid hE
  clear hG hE hrow
  go_enter Tryz.func86, Tryz.ntmps86
  go_upto_region 4 with (first | ((with_reducible refine g_bx 106 3 ?_); refine l_bxW rfl M.out ?_; clear M; intro g3 w' M) | ((with_reducible refine g_ld 3 ?_); refine l_l1b O_int rfl (M.out.now.2) (rfl) ?_) | ((with_reducible refine g_ld 102 ?_); refine l_l1b O_sEx rfl (M.out.now.2) (rfl) ?_))
  replace M := Lib.hid (M.out.imp (J' := J) fun y h => h.1)
  go_wp2
  go_loopg [15] kids.length (fun gk kk wr => ∃ Kd Kr : List ExprT, gk = Kr.length ∧ Hid (kids = Kd ++ Kr) ∧ kk = .int .i64 (Kd.length : Nat) ∧ Hid (WrS w0 wr g 82 L rs (J) (t ++ joinW [32, 124, 124, 32] (fun k => roundW E (k.kind == 0) k) Kd)))
  case atStart => exact ⟨[], kids, rfl, Lib.hid rfl, rfl, Lib.hid (by simpa [joinW] using M.out)⟩
  case round =>
    clear M
    obtain ⟨Kd, Kr0, hgk, HD, rfl, M⟩ := hrel
    have HGK := Lib.hid hgk
    clear hgk
    cases Kr0 with
    | cons e Kr =>
      have HI := Lib.hid (show kids[Kd.length]? = some e from by rw [HD.out, List.getElem?_append_right (Nat.le_refl _), Nat.sub_self]; rfl)
      obtain ⟨b, off, kc, hqA, hbT, -, hra, hex⟩ := HG.out _ _ HI.out
      subst hqA
      obtain ⟨hkn, hk1, hk0, hkw⟩ := HEK.out e (List.mem_of_getElem? HI.out) m kc hex
      have HKN := Lib.hid hkn
      have HKS := Lib.hid (show kc.toArray.size = 17 from by simpa using hkn)
      have HK1 := Lib.hid (show allOne kc.toArray.toList = true from by simpa using hk1)
      have HK0C := Lib.hid (show kc.toArray[0]? = some (.int .i64 e.kind) from by simpa using hk0)
      have HKW := Lib.hid hkw
      have HBT := Lib.hid hbT
      have hlt : (Kd.length : Int) < (kids.length : Int) := by have := (List.getElem?_eq_some_iff.1 HI.out).1; omega
      have HJ := Lib.hid (joinW_snoc [32, 124, 124, 32] (fun k => roundW E (k.kind == 0) k) e Kd)
      have hjl : t.length + (joinW [32, 124, 124, 32] (fun k => roundW E (k.kind == 0) k) (Kd ++ [e])).length ≤ 900000000 := by
        have h1 : (joinW [32, 124, 124, 32] (fun k => roundW E (k.kind == 0) k) (Kd ++ [e])).length ≤ (joinW [32, 124, 124, 32] (fun k => roundW E (k.kind == 0) k) kids).length := by rw [HD.out, show Kd ++ e :: Kr = (Kd ++ [e]) ++ Kr from by simp]; exact joinW_mono _ _ _ _
        omega
      rw [HJ.out] at hjl
      obtain ⟨p, hp⟩ : ∃ p, Kd.length = p := ⟨_, rfl⟩
      rw [hp] at hjl hlt hra
      have HRA := Lib.hid hra
      have HK := Lib.hid hp
      rw [hp]
      obtain ⟨YJ, hYJ⟩ : ∃ YJ, joinW [32, 124, 124, 32] (fun k => roundW E (k.kind == 0) k) Kd = YJ := ⟨_, rfl⟩
      rw [hYJ] at M hjl
      have HYJ := Lib.hid hYJ
      clear hra hbT hkn hk1 hk0 hkw hex hp hYJ
      by_cases hk0 : p = 0
      · have hd1 : decide (0 < p) = false := by simp; omega
        have hd2 : decide ((0 : Int) < (p : Int)) = false := by simp; omega
        rw [if_pos hk0, List.nil_append] at hjl
        have HK0 := Lib.hid hk0
        have HY0 := Lib.hid (show YJ = [] from by have := List.eq_nil_of_length_eq_zero (HK.out.trans hk0); rw [← HYJ.out, this]; rfl)
        clear hk0
        go_wp2_with (first | ((with_reducible refine g_ld 106 ?_); refine l_ldf F_Ex rfl (fun j v hv => (World.cell?_of_block (M.out.bel0.block b HBT.out)).trans (HRA.out j v hv)) HKN.out ?_) | ((with_reducible refine g_al 106 5 ?_); refine l_alW F_Ex M.out ?_; clear M; intro g5 w' M) | ((with_reducible refine g_st 106 ?_); refine l_stW F_Ex rfl rfl M.out (by exact rfl) HKS.out HK1.out ?_; clear M; intro w' M) | ((with_reducible refine g_ld 106 ?_); refine l_lb F_Ex rfl (M.out.now.2) HKS.out ?_) | ((with_reducible refine g_ld 3 ?_); refine l_l1b O_int rfl (M.out.now.2) (HK0C.out) ?_) | (go_at_call 108; (with_reducible refine (wround_any e kc HKN.out HKW.out _ g _ _ M.out (by rw [HY0.out, List.append_nil]; omega)).mono ?_); rintro e w' ⟨rfl, hm⟩; replace M := Lib.hid hm; clear hm))
        go_roundg Kr.length
        case measure => first | (rw [HGK.out]; simp; done) | (simp; done)
        case rel => exact ⟨Kd ++ [e], Kr, rfl, Lib.hid (by rw [HD.out]; simp), by rw [List.length_append, HK.out]; go_num, Lib.hid (by
                        have h := M.out.imp (J' := J) fun y h => h.1
                        rw [HJ.out, HK.out, if_pos HK0.out, List.nil_append]
                        rw [HY0.out, List.append_nil] at h
                        exact h)⟩
      · have hd1 : decide (0 < p) = true := by simp; omega
        have hd2 : decide ((0 : Int) < (p : Int)) = true := by simp; omega
        rw [if_neg hk0, List.length_append, List.length_append] at hjl
        have HK0 := Lib.hid hk0
        clear hk0
        simp only [List.length_cons, List.length_nil] at hjl
        go_wp2_with (first | ((with_reducible refine g_ld 106 ?_); refine l_ldf F_Ex rfl (fun j v hv => (World.cell?_of_block (M.out.bel0.block b HBT.out)).trans (HRA.out j v hv)) HKN.out ?_) | ((with_reducible refine g_al 106 5 ?_); refine l_alW F_Ex M.out ?_; clear M; intro g5 w' M) | ((with_reducible refine g_st 106 ?_); refine l_stW F_Ex rfl rfl M.out (by exact rfl) HKS.out HK1.out ?_; clear M; intro w' M) | ((with_reducible refine g_ld 106 ?_); refine l_lb F_Ex rfl (M.out.now.2) HKS.out ?_) | ((with_reducible refine g_ld 3 ?_); refine l_l1b O_int rfl (M.out.now.2) (HK0C.out) ?_) | (go_at_call 56; (with_reducible refine (wwl_any [32, 124, 124, 32] g 82 BT_w _ _ (by decide) _ M.out (by first | omega | (simp only [List.length_append, List.length_cons, List.length_nil]; omega))).mono ?_); rintro e w' ⟨rfl, hm⟩; replace M := Lib.hid hm; clear hm) | (go_at_call 108; (with_reducible refine (wround_any e kc HKN.out HKW.out _ g _ _ M.out (by first | omega | (simp only [List.length_append, List.length_cons, List.length_nil]; omega))).mono ?_); rintro e w' ⟨rfl, hm⟩; replace M := Lib.hid hm; clear hm))
        go_roundg Kr.length
        case measure => first | (rw [HGK.out]; simp; done) | (simp; done)
        case rel => exact ⟨Kd ++ [e], Kr, rfl, Lib.hid (by rw [HD.out]; simp), by rw [List.length_append, HK.out]; go_num, Lib.hid (by
                        have h := M.out.imp (J' := J) fun y h => h.1
                        rw [HJ.out, HK.out, if_neg HK0.out, HYJ.out]
                        simpa using h)⟩
    | nil =>
      obtain rfl : kids = Kd := by simpa using HD.out
      have hnl : ¬ (kids.length : Int) < (kids.length : Int) := by omega
      go_wp2
      go_end0
      exact ⟨rfl, M.out⟩
set_option maxRecDepth 100000 in
set_option maxHeartbeats 2000000 in
theorem wexpr_and (op lk ln rk rn : Int) (q0 ll rl la ra : Bool) (ls rs_ : ByteArray) (lv rv k q : Value) (m : Nat) (kids : List ExprT) (hrow : RowG (Lw w0) 17 (ExR (Lw w0) m w0) w0 k kids) (hE : ∀ e ∈ kids, EW w0 E e) (g : Nat) (t : List UInt8) (w : World) (h : WrS w0 w g 82 L rs J t) (hl : t.length + (joinW [32, 38, 38, 32] (fun k => roundW E (k.kind == 0 || k.kind == 1) k) kids).length ≤ 900000000) : Calls Tryz.prog 86 #[.pointer (some ⟨g, 0, none⟩), .agg #[.int .i64 1, k, .bool q0, q, .int .i64 op, .bool ll, .int .i64 lk, .int .i64 ln, .string ls, .bool la, lv, .bool rl, .int .i64 rk, .int .i64 rn, .string rs_, .bool ra, rv]] w (fun r w' => r = .returned (.tuple #[]) ∧ WrS w0 w' g 82 L rs J (t ++ joinW [32, 38, 38, 32] (fun k => roundW E (k.kind == 0 || k.kind == 1) k) kids)) := by
  have M := Lib.hid h
  clear h
  obtain ⟨A, cap, rfl, hsl, hG⟩ := RowG.get hrow
  unfold EW at hE
  have HG := Lib.hid hG
  have HEK := Lib.hid hE
  clear hG hE hrow
  go_enter Tryz.func86, Tryz.ntmps86
  go_upto_region 12 with (first | ((with_reducible refine g_bx 106 3 ?_); refine l_bxW rfl M.out ?_; clear M; intro g3 w' M) | ((with_reducible refine g_ld 3 ?_); refine l_l1b O_int rfl (M.out.now.2) (rfl) ?_) | ((with_reducible refine g_ld 102 ?_); refine l_l1b O_sEx rfl (M.out.now.2) (rfl) ?_))
  replace M := Lib.hid (M.out.imp (J' := J) fun y h => h.1)
  go_wp2
  go_loopg [38] kids.length (fun gk kk wr => ∃ Kd Kr : List ExprT, gk = Kr.length ∧ Hid (kids = Kd ++ Kr) ∧ kk = .int .i64 (Kd.length : Nat) ∧ Hid (WrS w0 wr g 82 L rs (J) (t ++ joinW [32, 38, 38, 32] (fun k => roundW E (k.kind == 0 || k.kind == 1) k) Kd)))
  case atStart => exact ⟨[], kids, rfl, Lib.hid rfl, rfl, Lib.hid (by simpa [joinW] using M.out)⟩
  case round =>
    clear M
    obtain ⟨Kd, Kr0, hgk, HD, rfl, M⟩ := hrel
    have HGK := Lib.hid hgk
    clear hgk
    cases Kr0 with
    | cons e Kr =>
      have HI := Lib.hid (show kids[Kd.length]? = some e from by rw [HD.out, List.getElem?_append_right (Nat.le_refl _), Nat.sub_self]; rfl)
      obtain ⟨b, off, kc, hqA, hbT, -, hra, hex⟩ := HG.out _ _ HI.out
      subst hqA
      obtain ⟨hkn, hk1, hk0, hkw⟩ := HEK.out e (List.mem_of_getElem? HI.out) m kc hex
      have HKN := Lib.hid hkn
      have HKS := Lib.hid (show kc.toArray.size = 17 from by simpa using hkn)
      have HK1 := Lib.hid (show allOne kc.toArray.toList = true from by simpa using hk1)
      have HK0C := Lib.hid (show kc.toArray[0]? = some (.int .i64 e.kind) from by simpa using hk0)
      have HKW := Lib.hid hkw
      have HBT := Lib.hid hbT
      have hlt : (Kd.length : Int) < (kids.length : Int) := by have := (List.getElem?_eq_some_iff.1 HI.out).1; omega
      have HJ := Lib.hid (joinW_snoc [32, 38, 38, 32] (fun k => roundW E (k.kind == 0 || k.kind == 1) k) e Kd)
      have hjl : t.length + (joinW [32, 38, 38, 32] (fun k => roundW E (k.kind == 0 || k.kind == 1) k) (Kd ++ [e])).length ≤ 900000000 := by
        have h1 : (joinW [32, 38, 38, 32] (fun k => roundW E (k.kind == 0 || k.kind == 1) k) (Kd ++ [e])).length ≤ (joinW [32, 38, 38, 32] (fun k => roundW E (k.kind == 0 || k.kind == 1) k) kids).length := by rw [HD.out, show Kd ++ e :: Kr = (Kd ++ [e]) ++ Kr from by simp]; exact joinW_mono _ _ _ _
        omega
      rw [HJ.out] at hjl
      obtain ⟨p, hp⟩ : ∃ p, Kd.length = p := ⟨_, rfl⟩
      rw [hp] at hjl hlt hra
      have HRA := Lib.hid hra
      have HK := Lib.hid hp
      rw [hp]
      obtain ⟨YJ, hYJ⟩ : ∃ YJ, joinW [32, 38, 38, 32] (fun k => roundW E (k.kind == 0 || k.kind == 1) k) Kd = YJ := ⟨_, rfl⟩
      rw [hYJ] at M hjl
      have HYJ := Lib.hid hYJ
      clear hra hbT hkn hk1 hk0 hkw hex hp hYJ
      by_cases hk0 : p = 0
      · have hd1 : decide (0 < p) = false := by simp; omega
        have hd2 : decide ((0 : Int) < (p : Int)) = false := by simp; omega
        rw [if_pos hk0, List.nil_append] at hjl
        have HK0 := Lib.hid hk0
        have HY0 := Lib.hid (show YJ = [] from by have := List.eq_nil_of_length_eq_zero (HK.out.trans hk0); rw [← HYJ.out, this]; rfl)
        clear hk0
        obtain ⟨b0, hb0⟩ : ∃ b0, (e.kind == 0) = b0 := ⟨_, rfl⟩
        have HB0 := Lib.hid hb0
        cases b0
        all_goals
          go_wp2_with (first | ((with_reducible refine g_ld 106 ?_); refine l_ldf F_Ex rfl (fun j v hv => (World.cell?_of_block (M.out.bel0.block b HBT.out)).trans (HRA.out j v hv)) HKN.out ?_) | ((with_reducible refine g_al 106 7 ?_); refine l_alW F_Ex M.out ?_; clear M; intro g7 w' M) | ((with_reducible refine g_st 106 ?_); refine l_stW F_Ex rfl rfl M.out (by exact rfl) HKS.out HK1.out ?_; clear M; intro w' M) | ((with_reducible refine g_ld 106 ?_); refine l_lb F_Ex rfl (M.out.now.2) HKS.out ?_) | ((with_reducible refine g_ld 3 ?_); refine l_l1b O_int rfl (M.out.now.2) (HK0C.out) ?_) | ((with_reducible refine g_ldg 3 ?_); refine l_l1bg O_int rfl rfl (M.out.now.2) (HK0C.out) ?_) | (go_at_call 108; (with_reducible refine (wround_eq e kc HKN.out HKW.out (e.kind == 0 || e.kind == 1) _ (by simp [HB0.out]) g _ _ M.out (by rw [HY0.out, List.append_nil]; omega)).mono ?_); rintro e w' ⟨rfl, hm⟩; replace M := Lib.hid hm; clear hm))
          go_roundg Kr.length
          case measure => first | (rw [HGK.out]; simp; done) | (simp; done)
          case rel => exact ⟨Kd ++ [e], Kr, rfl, Lib.hid (by rw [HD.out]; simp), by rw [List.length_append, HK.out]; go_num, Lib.hid (by
                          have h := M.out.imp (J' := J) fun y h => h.1
                          rw [HJ.out, HK.out, if_pos HK0.out, List.nil_append]
                          rw [HY0.out, List.append_nil] at h
                          exact h)⟩
      · have hd1 : decide (0 < p) = true := by simp; omega
        have hd2 : decide ((0 : Int) < (p : Int)) = true := by simp; omega
        rw [if_neg hk0, List.length_append, List.length_append] at hjl
        have HK0 := Lib.hid hk0
        clear hk0
        simp only [List.length_cons, List.length_nil] at hjl
        obtain ⟨b0, hb0⟩ : ∃ b0, (e.kind == 0) = b0 := ⟨_, rfl⟩
        have HB0 := Lib.hid hb0
        cases b0
        all_goals
          go_wp2_with (first | ((with_reducible refine g_ld 106 ?_); refine l_ldf F_Ex rfl (fun j v hv => (World.cell?_of_block (M.out.bel0.block b HBT.out)).trans (HRA.out j v hv)) HKN.out ?_) | ((with_reducible refine g_al 106 7 ?_); refine l_alW F_Ex M.out ?_; clear M; intro g7 w' M) | ((with_reducible refine g_st 106 ?_); refine l_stW F_Ex rfl rfl M.out (by exact rfl) HKS.out HK1.out ?_; clear M; intro w' M) | ((with_reducible refine g_ld 106 ?_); refine l_lb F_Ex rfl (M.out.now.2) HKS.out ?_) | ((with_reducible refine g_ld 3 ?_); refine l_l1b O_int rfl (M.out.now.2) (HK0C.out) ?_) | (go_at_call 56; (with_reducible refine (wwl_any [32, 38, 38, 32] g 82 BT_w _ _ (by decide) _ M.out (by first | omega | (simp only [List.length_append, List.length_cons, List.length_nil]; omega))).mono ?_); rintro e w' ⟨rfl, hm⟩; replace M := Lib.hid hm; clear hm) | ((with_reducible refine g_ldg 3 ?_); refine l_l1bg O_int rfl rfl (M.out.now.2) (HK0C.out) ?_) | (go_at_call 108; (with_reducible refine (wround_eq e kc HKN.out HKW.out (e.kind == 0 || e.kind == 1) _ (by simp [HB0.out]) g _ _ M.out (by first | omega | (simp only [List.length_append, List.length_cons, List.length_nil]; omega))).mono ?_); rintro e w' ⟨rfl, hm⟩; replace M := Lib.hid hm; clear hm))
          go_roundg Kr.length
          case measure => first | (rw [HGK.out]; simp; done) | (simp; done)
          case rel => exact ⟨Kd ++ [e], Kr, rfl, Lib.hid (by rw [HD.out]; simp), by rw [List.length_append, HK.out]; go_num, Lib.hid (by
                          have h := M.out.imp (J' := J) fun y h => h.1
                          rw [HJ.out, HK.out, if_neg HK0.out, HYJ.out]
                          simpa using h)⟩
    | nil =>
      obtain rfl : kids = Kd := by simpa using HD.out
      have hnl : ¬ (kids.length : Int) < (kids.length : Int) := by omega
      go_wp2
      go_end0
      exact ⟨rfl, M.out⟩
end

end Go.Proofs.YtpcbcodmocmilaaGreatDoor
