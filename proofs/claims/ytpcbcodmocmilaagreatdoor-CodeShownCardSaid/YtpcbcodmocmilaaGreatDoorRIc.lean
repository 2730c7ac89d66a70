/- ref17: sameSide, sameExpr, of any two (printed by gen_ic.py). -/
import Derived.Test.YtpcbcodmocmilaaGreatDoorRG36
namespace Go.Proofs.YtpcbcodmocmilaaGreatDoor
open Go.RowKit
theorem F_Sid : TyF Tryz.prog 104 6 #[.bool false, .int .i64 0, .int .i64 0, .string ⟨#[]⟩, .bool false, .slice none 0 0] := ⟨⟨_, Tryz.underlying104, rfl⟩, by kernel_rfl, by kernel_rfl⟩
section
variable {P : Program} {ops : Array Oper} {dst : Option Tmp} {tt : TypeId} {pos : String} {af : Array Edge} {a : Act} {w0 w : World} {Q : Exit → Act → World → Prop} {X : List Nat} {L : List BlkE} {rs : List RowE} {J : World → Prop} {rest : List Oper}
theorem q_ldm {T : TypeId} {n : Nat} {z : Array Value} (F : TyF P T n z) {gd : Nat × Bool} {x : Operand} {g o : Nat} {T' : TypeId} {cs : Array Value} {part : List Value} (hw : Region.wanted ⟨dst, .load T x, tt, pos, af, some gd⟩ (yielded ops a.tmps) = true) (hx : a.eval x = .pointer (some ⟨g, o, none⟩)) (M : Own X w0 w L rs J) (hm : (g, T', cs) ∈ L) (hp : (cs.toList.drop o).take n = part) (hn : part.length = n)
    (h : wpList P ops Q rest (a.put dst (.agg part.toArray)) w) : wpList P ops Q (⟨dst, .load T x, tt, pos, af, some gd⟩ :: rest) a w :=
  wpList_step fun _ hK => by rw [if_pos hw]; exact o_ldf F hx (range_own (M.blk _ hm) hp) hn (hK _ _ h)
end

set_option maxRecDepth 100000 in
set_option maxHeartbeats 2000000 in
theorem sside_no (l1 l2 a1 a2 : Bool) (k1 k2 n1 n2 : Int) (s1 s2 : List UInt8) (v1 v2 : Value) (w : World) (h : l1 ≠ l2 ∨ (l1 = l2 ∧ k1 ≠ k2) ∨ (l1 = l2 ∧ k1 = k2 ∧ n1 ≠ n2) ∨ (l1 = l2 ∧ k1 = k2 ∧ n1 = n2 ∧ s1 ≠ s2)) : Calls Tryz.prog 87 #[.agg #[.bool l1, .int .i64 k1, .int .i64 n1, .string (bs s1), .bool a1, v1], .agg #[.bool l2, .int .i64 k2, .int .i64 n2, .string (bs s2), .bool a2, v2]] w (fun e w' => e = .returned (.bool false) ∧ Bel w.heap.size w w') := by
  have M := Lib.hid (Own.start [] w (fun _ => True) fun _ _ => trivial)
  rcases h with h | ⟨rfl, h⟩ | ⟨rfl, rfl, h⟩ | ⟨rfl, rfl, rfl, h⟩
  all_goals
    first | replace h := i_eq h | replace h := s_eq h | (have h2 := b_x h; replace h := b_eq h)
    go_enter Tryz.func87, Tryz.ntmps87
    go_wp2_with (first | ((with_reducible refine g_bx 104 2 ?_); refine l_bx rfl M.out ?_; clear M; intro g2 w' hg2 M) | ((with_reducible refine g_bx 104 3 ?_); refine l_bx rfl M.out ?_; clear M; intro g3 w' hg3 M) | ((with_reducible refine g_ld 4 ?_); refine l_ld1 O_bool rfl M.out (by repeat constructor) (by exact rfl) ?_) | ((with_reducible refine g_ld 3 ?_); refine l_ld1 O_int rfl M.out (by repeat constructor) (by exact rfl) ?_) | ((with_reducible refine g_ld 2 ?_); refine l_ld1 O_i64 rfl M.out (by repeat constructor) (by exact rfl) ?_) | ((with_reducible refine g_ld 9 ?_); refine l_ld1 O_str rfl M.out (by repeat constructor) (by exact rfl) ?_) | ((with_reducible refine q_gl 4 ?_); refine q_ld1g O_bool rfl rfl M.out (by repeat constructor) (by exact rfl) ?_) | ((with_reducible refine q_gl 3 ?_); refine q_ld1g O_int rfl rfl M.out (by repeat constructor) (by exact rfl) ?_) | ((with_reducible refine q_gl 2 ?_); refine q_ld1g O_i64 rfl rfl M.out (by repeat constructor) (by exact rfl) ?_) | ((with_reducible refine q_gl 9 ?_); refine q_ld1g O_str rfl rfl M.out (by repeat constructor) (by exact rfl) ?_))
    go_ret
    exact ⟨rfl, M.out.bel0⟩
set_option maxRecDepth 100000 in
set_option maxHeartbeats 2000000 in
theorem sside_c (l1 a1 a2 : Bool) (k1 n1 : Int) (s1 : List UInt8) (v1 v2 : Value) (bv : Bool) (w : World) (hc : ∀ y, Bel w.heap.size w y → Calls Tryz.prog 19 #[.agg #[.bool a1, v1], .agg #[.bool a2, v2]] y fun e w' => e = .returned (.bool bv) ∧ Bel y.heap.size y w') : Calls Tryz.prog 87 #[.agg #[.bool l1, .int .i64 k1, .int .i64 n1, .string (bs s1), .bool a1, v1], .agg #[.bool l1, .int .i64 k1, .int .i64 n1, .string (bs s1), .bool a2, v2]] w (fun e w' => e = .returned (.bool bv) ∧ Bel w.heap.size w w') := by
  have M := Lib.hid (Own.start [] w (fun _ => True) fun _ _ => trivial)
  have HC := Lib.hid hc
  clear hc
  go_enter Tryz.func87, Tryz.ntmps87
  go_wp2_with (first | ((with_reducible refine g_bx 104 2 ?_); refine l_bx rfl M.out ?_; clear M; intro g2 w' hg2 M) | ((with_reducible refine g_bx 104 3 ?_); refine l_bx rfl M.out ?_; clear M; intro g3 w' hg3 M) | ((with_reducible refine g_ld 4 ?_); refine l_ld1 O_bool rfl M.out (by repeat constructor) (by exact rfl) ?_) | ((with_reducible refine g_ld 3 ?_); refine l_ld1 O_int rfl M.out (by repeat constructor) (by exact rfl) ?_) | ((with_reducible refine g_ld 2 ?_); refine l_ld1 O_i64 rfl M.out (by repeat constructor) (by exact rfl) ?_) | ((with_reducible refine g_ld 9 ?_); refine l_ld1 O_str rfl M.out (by repeat constructor) (by exact rfl) ?_) | ((with_reducible refine q_gl 4 ?_); refine q_ld1g O_bool rfl rfl M.out (by repeat constructor) (by exact rfl) ?_) | ((with_reducible refine q_gl 3 ?_); refine q_ld1g O_int rfl rfl M.out (by repeat constructor) (by exact rfl) ?_) | ((with_reducible refine q_gl 2 ?_); refine q_ld1g O_i64 rfl rfl M.out (by repeat constructor) (by exact rfl) ?_) | ((with_reducible refine q_gl 9 ?_); refine q_ld1g O_str rfl rfl M.out (by repeat constructor) (by exact rfl) ?_) | ((with_reducible refine q_gl 37 ?_); refine q_ldm F_Path rfl rfl M.out (by repeat constructor) (by exact rfl) (by exact rfl) ?_) | (go_at_call 19; (with_reducible refine (HC.out _ M.out.bel0).mono ?_); rintro e w' ⟨rfl, hb⟩; replace M := Lib.hid (M.out.bel hb); clear hb))
  go_ret
  exact ⟨rfl, M.out.bel0⟩
set_option maxRecDepth 100000 in
set_option maxHeartbeats 2000000 in
theorem sexpr_no (k1 k2 op1 op2 : Int) (A1 A2 : Option Addr) (N1 N2 q1 q2 : Nat) (qa1 qa2 : Bool) (qv1 qv2 x5 x6 x7 x8 x9 x10 x11 x12 x13 x14 x15 x16 y5 y6 y7 y8 y9 y10 y11 y12 y13 y14 y15 y16 : Value) (w : World) (h : k1 ≠ k2 ∨ (k1 = k2 ∧ op1 ≠ op2) ∨ (k1 = k2 ∧ op1 = op2 ∧ (N1 : Int) ≠ (N2 : Int))) : Calls Tryz.prog 58 #[.agg #[.int .i64 k1, .slice A1 N1 q1, .bool qa1, qv1, .int .i64 op1, x5, x6, x7, x8, x9, x10, x11, x12, x13, x14, x15, x16], .agg #[.int .i64 k2, .slice A2 N2 q2, .bool qa2, qv2, .int .i64 op2, y5, y6, y7, y8, y9, y10, y11, y12, y13, y14, y15, y16]] w (fun e w' => e = .returned (.bool false) ∧ Bel w.heap.size w w') := by
  have M := Lib.hid (Own.start [] w (fun _ => True) fun _ _ => trivial)
  rcases h with h | ⟨rfl, h⟩ | ⟨rfl, rfl, h⟩
  all_goals
    replace h := i_ne h
    go_enter Tryz.func58, Tryz.ntmps58
    go_wp2_with (first | ((with_reducible refine g_bx 106 2 ?_); refine l_bx rfl M.out ?_; clear M; intro g2 w' hg2 M) | ((with_reducible refine g_bx 106 3 ?_); refine l_bx rfl M.out ?_; clear M; intro g3 w' hg3 M) | ((with_reducible refine g_ld 3 ?_); refine l_ld1 O_int rfl M.out (by repeat constructor) (by exact rfl) ?_) | ((with_reducible refine q_gl 3 ?_); refine q_ld1g O_int rfl rfl M.out (by repeat constructor) (by exact rfl) ?_) | ((with_reducible refine g_ld 102 ?_); refine l_ld1 O_sEx rfl M.out (by repeat constructor) (by exact rfl) ?_) | ((with_reducible refine q_gl 102 ?_); refine q_ld1g O_sEx rfl rfl M.out (by repeat constructor) (by exact rfl) ?_))
    go_ret
    exact ⟨rfl, M.out.bel0⟩
set_option maxRecDepth 100000 in
set_option maxHeartbeats 2000000 in
theorem sexpr_c (k op : Int) (A1 A2 : Option Addr) (N q1 q2 : Nat) (qa1 qa2 : Bool) (qv1 qv2 x5 x6 x7 x8 x9 x10 x11 x12 x13 x14 x15 x16 y5 y6 y7 y8 y9 y10 y11 y12 y13 y14 y15 y16 : Value) (w : World) (bq bl br : Bool) (hq : ∀ y, Bel w.heap.size w y → Calls Tryz.prog 19 #[.agg #[.bool qa1, qv1], .agg #[.bool qa2, qv2]] y fun e w' => e = .returned (.bool bq) ∧ Bel y.heap.size y w') (hl : ∀ y, Bel w.heap.size w y → Calls Tryz.prog 87 #[.agg #[x5, x6, x7, x8, x9, x10], .agg #[y5, y6, y7, y8, y9, y10]] y fun e w' => e = .returned (.bool bl) ∧ Bel y.heap.size y w') (hr : ∀ y, Bel w.heap.size w y → Calls Tryz.prog 87 #[.agg #[x11, x12, x13, x14, x15, x16], .agg #[y11, y12, y13, y14, y15, y16]] y fun e w' => e = .returned (.bool br) ∧ Bel y.heap.size y w') (h : bq = false ∨ (bq = true ∧ bl = false) ∨ (bq = true ∧ bl = true ∧ br = false)) : Calls Tryz.prog 58 #[.agg #[.int .i64 k, .slice A1 N q1, .bool qa1, qv1, .int .i64 op, x5, x6, x7, x8, x9, x10, x11, x12, x13, x14, x15, x16], .agg #[.int .i64 k, .slice A2 N q2, .bool qa2, qv2, .int .i64 op, y5, y6, y7, y8, y9, y10, y11, y12, y13, y14, y15, y16]] w (fun e w' => e = .returned (.bool false) ∧ Bel w.heap.size w w') := by
  have M := Lib.hid (Own.start [] w (fun _ => True) fun _ _ => trivial)
  have HQ := Lib.hid hq
  have HL := Lib.hid hl
  have HR := Lib.hid hr
  clear hq hl hr
  rcases h with rfl | ⟨rfl, rfl⟩ | ⟨rfl, rfl, rfl⟩
  all_goals
    go_enter Tryz.func58, Tryz.ntmps58
    go_wp2_with (first | ((with_reducible refine g_bx 106 2 ?_); refine l_bx rfl M.out ?_; clear M; intro g2 w' hg2 M) | ((with_reducible refine g_bx 106 3 ?_); refine l_bx rfl M.out ?_; clear M; intro g3 w' hg3 M) | ((with_reducible refine g_ld 3 ?_); refine l_ld1 O_int rfl M.out (by repeat constructor) (by exact rfl) ?_) | ((with_reducible refine q_gl 3 ?_); refine q_ld1g O_int rfl rfl M.out (by repeat constructor) (by exact rfl) ?_) | ((with_reducible refine g_ld 102 ?_); refine l_ld1 O_sEx rfl M.out (by repeat constructor) (by exact rfl) ?_) | ((with_reducible refine q_gl 102 ?_); refine q_ld1g O_sEx rfl rfl M.out (by repeat constructor) (by exact rfl) ?_) | ((with_reducible refine q_gl 37 ?_); refine q_ldm F_Path rfl rfl M.out (by repeat constructor) (by exact rfl) (by exact rfl) ?_) | ((with_reducible refine q_gl 104 ?_); refine q_ldm F_Sid rfl rfl M.out (by repeat constructor) (by exact rfl) (by exact rfl) ?_) | (go_at_call 19; (with_reducible refine (HQ.out _ M.out.bel0).mono ?_); rintro e w' ⟨rfl, hb⟩; replace M := Lib.hid (M.out.bel hb); clear hb) | (go_at_call 87; (with_reducible refine (HL.out _ M.out.bel0).mono ?_); rintro e w' ⟨rfl, hb⟩; replace M := Lib.hid (M.out.bel hb); clear hb) | (go_at_call 87; (with_reducible refine (HR.out _ M.out.bel0).mono ?_); rintro e w' ⟨rfl, hb⟩; replace M := Lib.hid (M.out.bel hb); clear hb))
    go_ret
    exact ⟨rfl, M.out.bel0⟩
set_option maxRecDepth 100000 in
set_option maxHeartbeats 2000000 in
theorem sexpr_all (k op : Int) (A1 A2 : Option Addr) (N q1 q2 : Nat) (qa1 qa2 : Bool) (qv1 qv2 x5 x6 x7 x8 x9 x10 x11 x12 x13 x14 x15 x16 y5 y6 y7 y8 y9 y10 y11 y12 y13 y14 y15 y16 : Value) (w : World) (hq : ∀ y, Bel w.heap.size w y → Calls Tryz.prog 19 #[.agg #[.bool qa1, qv1], .agg #[.bool qa2, qv2]] y fun e w' => e = .returned (.bool true) ∧ Bel y.heap.size y w') (hl : ∀ y, Bel w.heap.size w y → Calls Tryz.prog 87 #[.agg #[x5, x6, x7, x8, x9, x10], .agg #[y5, y6, y7, y8, y9, y10]] y fun e w' => e = .returned (.bool true) ∧ Bel y.heap.size y w') (hr : ∀ y, Bel w.heap.size w y → Calls Tryz.prog 87 #[.agg #[x11, x12, x13, x14, x15, x16], .agg #[y11, y12, y13, y14, y15, y16]] y fun e w' => e = .returned (.bool true) ∧ Bel y.heap.size y w') (J0 : World → Prop) (h0 : ∀ y, Kept [] w y → J0 y) (p1 o1 p2 o2 : Nat) (hA : 0 < N → A1 = some ⟨p1, o1, none⟩ ∧ A2 = some ⟨p2, o2, none⟩) (hN : N ≤ 9223372036854775807) (c1 c2 : Nat → List Value) (ans : Nat → Bool) (b : Bool) (hb : b = true ↔ ∀ j, j < N → ans j = true)
    (hn1 : ∀ j, j < N → (c1 j).length = 17) (hn2 : ∀ j, j < N → (c2 j).length = 17) (hr1 : ∀ j, j < N → ∀ y, J0 y → y.rangeAt p1 (o1 + j * 17) (c1 j)) (hr2 : ∀ j, j < N → ∀ y, J0 y → y.rangeAt p2 (o2 + j * 17) (c2 j))
    (hc : ∀ j, j < N → ∀ y, J0 y → Calls Tryz.prog 58 #[.agg (c1 j).toArray, .agg (c2 j).toArray] y fun e w' => e = .returned (.bool (ans j)) ∧ Bel y.heap.size y w') : Calls Tryz.prog 58 #[.agg #[.int .i64 k, .slice A1 N q1, .bool qa1, qv1, .int .i64 op, x5, x6, x7, x8, x9, x10, x11, x12, x13, x14, x15, x16], .agg #[.int .i64 k, .slice A2 N q2, .bool qa2, qv2, .int .i64 op, y5, y6, y7, y8, y9, y10, y11, y12, y13, y14, y15, y16]] w (fun e w' => e = .returned (.bool b) ∧ Bel w.heap.size w w') := by
  have M := Lib.hid (Own.start [] w J0 h0)
  have HQ := Lib.hid hq
  have HL := Lib.hid hl
  have HR := Lib.hid hr
  have HR1 := Lib.hid hr1
  have HR2 := Lib.hid hr2
  have HN1 := Lib.hid hn1
  have HN2 := Lib.hid hn2
  have HC := Lib.hid hc
  have HB := Lib.hid hb
  clear h0 hq hl hr hr1 hr2 hn1 hn2 hc hb
  go_enter Tryz.func58, Tryz.ntmps58
  go_wp2_with (first | ((with_reducible refine g_bx 106 2 ?_); refine l_bx rfl M.out ?_; clear M; intro g2 w' hg2 M) | ((with_reducible refine g_bx 106 3 ?_); refine l_bx rfl M.out ?_; clear M; intro g3 w' hg3 M) | ((with_reducible refine g_ld 3 ?_); refine l_ld1 O_int rfl M.out (by repeat constructor) (by exact rfl) ?_) | ((with_reducible refine q_gl 3 ?_); refine q_ld1g O_int rfl rfl M.out (by repeat constructor) (by exact rfl) ?_) | ((with_reducible refine g_ld 102 ?_); refine l_ld1 O_sEx rfl M.out (by repeat constructor) (by exact rfl) ?_) | ((with_reducible refine q_gl 102 ?_); refine q_ld1g O_sEx rfl rfl M.out (by repeat constructor) (by exact rfl) ?_) | ((with_reducible refine q_gl 37 ?_); refine q_ldm F_Path rfl rfl M.out (by repeat constructor) (by exact rfl) (by exact rfl) ?_) | ((with_reducible refine q_gl 104 ?_); refine q_ldm F_Sid rfl rfl M.out (by repeat constructor) (by exact rfl) (by exact rfl) ?_) | (go_at_call 19; (with_reducible refine (HQ.out _ M.out.bel0).mono ?_); rintro e w' ⟨rfl, hb⟩; replace M := Lib.hid (M.out.bel hb); clear hb) | (go_at_call 87; (with_reducible refine (HL.out _ M.out.bel0).mono ?_); rintro e w' ⟨rfl, hb⟩; replace M := Lib.hid (M.out.bel hb); clear hb) | (go_at_call 87; (with_reducible refine (HR.out _ M.out.bel0).mono ?_); rintro e w' ⟨rfl, hb⟩; replace M := Lib.hid (M.out.bel hb); clear hb))
  go_loopg [5] N (fun gk jj wr => ∃ j : Nat, j ≤ N ∧ gk = N - j ∧ jj = .int .i64 j ∧ Hid (∀ i, i < j → ans i = true) ∧ Hid (Own [] w wr [(g3, 106, #[.int .i64 k, .slice A2 N q2, .bool qa2, qv2, .int .i64 op, y5, y6, y7, y8, y9, y10, y11, y12, y13, y14, y15, y16]), (g2, 106, #[.int .i64 k, .slice A1 N q1, .bool qa1, qv1, .int .i64 op, x5, x6, x7, x8, x9, x10, x11, x12, x13, x14, x15, x16])] [] J0))
  case atStart => exact ⟨0, Nat.zero_le _, rfl, rfl, Lib.hid (fun i hi => absurd hi (by omega)), M⟩
  case round =>
    clear M
    obtain ⟨j, hj, hgk, rfl, HA, M⟩ := hrel
    have HG := Lib.hid hgk
    clear hgk
    by_cases hlt : j < N
    · obtain ⟨rfl, rfl⟩ := hA (by omega)
      have hlti : (j : Int) < (N : Int) := by omega
      go_upto_region 6 with (first | ((with_reducible refine g_ld 102 ?_); refine l_ld1 O_sEx rfl M.out (by repeat constructor) (by exact rfl) ?_))
      cases ha : ans j
      · have hno : b = false := by
          cases hbb : b with
          | false => rfl
          | true => have := HB.out.1 hbb j hlt; rw [ha] at this; cases this
        have hcj := HC.out j hlt
        rw [ha] at hcj
        have HC := Lib.hid (fun (j' : Nat) (_ : j < N) => hcj)
        replace M := Lib.hid M.out.drew
        refine tb (fun y => (J0 y ∧ Blk y g3 106 #[.int .i64 k, .slice (some ⟨p2, o2, none⟩) N q2, .bool qa2, qv2, .int .i64 op, y5, y6, y7, y8, y9, y10, y11, y12, y13, y14, y15, y16]) ∧ Blk y g2 106 #[.int .i64 k, .slice (some ⟨p1, o1, none⟩) N q1, .bool qa1, qv1, .int .i64 op, x5, x6, x7, x8, x9, x10, x11, x12, x13, x14, x15, x16]) ⟨⟨M.out.now, M.out.blk (g3, 106, #[.int .i64 k, .slice (some ⟨p2, o2, none⟩) N q2, .bool qa2, qv2, .int .i64 op, y5, y6, y7, y8, y9, y10, y11, y12, y13, y14, y15, y16]) (by repeat constructor)⟩, M.out.blk (g2, 106, #[.int .i64 k, .slice (some ⟨p1, o1, none⟩) N q1, .bool qa1, qv1, .int .i64 op, x5, x6, x7, x8, x9, x10, x11, x12, x13, x14, x15, x16]) (by repeat constructor)⟩ ?_
        refine tkp 0 rfl ⟨⟨M.out.now, M.out.blk (g3, 106, #[.int .i64 k, .slice (some ⟨p2, o2, none⟩) N q2, .bool qa2, qv2, .int .i64 op, y5, y6, y7, y8, y9, y10, y11, y12, y13, y14, y15, y16]) (by repeat constructor)⟩, M.out.blk (g2, 106, #[.int .i64 k, .slice (some ⟨p1, o1, none⟩) N q1, .bool qa1, qv1, .int .i64 op, x5, x6, x7, x8, x9, x10, x11, x12, x13, x14, x15, x16]) (by repeat constructor)⟩ ?_
        refine tk 1 rfl ⟨⟨M.out.now, M.out.blk (g3, 106, #[.int .i64 k, .slice (some ⟨p2, o2, none⟩) N q2, .bool qa2, qv2, .int .i64 op, y5, y6, y7, y8, y9, y10, y11, y12, y13, y14, y15, y16]) (by repeat constructor)⟩, M.out.blk (g2, 106, #[.int .i64 k, .slice (some ⟨p1, o1, none⟩) N q1, .bool qa1, qv1, .int .i64 op, x5, x6, x7, x8, x9, x10, x11, x12, x13, x14, x15, x16]) (by repeat constructor)⟩ (y_ld1 O_sEx _ g2 1 rfl _ _ (fun y h => h.2) _ rfl) ?_
        refine tkp 2 rfl ⟨⟨M.out.now, M.out.blk (g3, 106, #[.int .i64 k, .slice (some ⟨p2, o2, none⟩) N q2, .bool qa2, qv2, .int .i64 op, y5, y6, y7, y8, y9, y10, y11, y12, y13, y14, y15, y16]) (by repeat constructor)⟩, M.out.blk (g2, 106, #[.int .i64 k, .slice (some ⟨p1, o1, none⟩) N q1, .bool qa1, qv1, .int .i64 op, x5, x6, x7, x8, x9, x10, x11, x12, x13, x14, x15, x16]) (by repeat constructor)⟩ ?_
        refine tkp 3 rfl ⟨⟨M.out.now, M.out.blk (g3, 106, #[.int .i64 k, .slice (some ⟨p2, o2, none⟩) N q2, .bool qa2, qv2, .int .i64 op, y5, y6, y7, y8, y9, y10, y11, y12, y13, y14, y15, y16]) (by repeat constructor)⟩, M.out.blk (g2, 106, #[.int .i64 k, .slice (some ⟨p1, o1, none⟩) N q1, .bool qa1, qv1, .int .i64 op, x5, x6, x7, x8, x9, x10, x11, x12, x13, x14, x15, x16]) (by repeat constructor)⟩ ?_
        refine tk 4 rfl ⟨⟨M.out.now, M.out.blk (g3, 106, #[.int .i64 k, .slice (some ⟨p2, o2, none⟩) N q2, .bool qa2, qv2, .int .i64 op, y5, y6, y7, y8, y9, y10, y11, y12, y13, y14, y15, y16]) (by repeat constructor)⟩, M.out.blk (g2, 106, #[.int .i64 k, .slice (some ⟨p1, o1, none⟩) N q1, .bool qa1, qv1, .int .i64 op, x5, x6, x7, x8, x9, x10, x11, x12, x13, x14, x15, x16]) (by repeat constructor)⟩ (y_ldf F_Ex _ p1 (o1 + j * 17) rfl (c1 j) (fun y h => HR1.out j hlt y h.1.1) (HN1.out j hlt)) ?_
        refine tkp 5 rfl ⟨⟨M.out.now, M.out.blk (g3, 106, #[.int .i64 k, .slice (some ⟨p2, o2, none⟩) N q2, .bool qa2, qv2, .int .i64 op, y5, y6, y7, y8, y9, y10, y11, y12, y13, y14, y15, y16]) (by repeat constructor)⟩, M.out.blk (g2, 106, #[.int .i64 k, .slice (some ⟨p1, o1, none⟩) N q1, .bool qa1, qv1, .int .i64 op, x5, x6, x7, x8, x9, x10, x11, x12, x13, x14, x15, x16]) (by repeat constructor)⟩ ?_
        refine tk 6 rfl ⟨⟨M.out.now, M.out.blk (g3, 106, #[.int .i64 k, .slice (some ⟨p2, o2, none⟩) N q2, .bool qa2, qv2, .int .i64 op, y5, y6, y7, y8, y9, y10, y11, y12, y13, y14, y15, y16]) (by repeat constructor)⟩, M.out.blk (g2, 106, #[.int .i64 k, .slice (some ⟨p1, o1, none⟩) N q1, .bool qa1, qv1, .int .i64 op, x5, x6, x7, x8, x9, x10, x11, x12, x13, x14, x15, x16]) (by repeat constructor)⟩ (y_ld1 O_sEx _ g3 1 rfl _ _ (fun y h => h.1.2) _ rfl) ?_
        refine tkp 7 rfl ⟨⟨M.out.now, M.out.blk (g3, 106, #[.int .i64 k, .slice (some ⟨p2, o2, none⟩) N q2, .bool qa2, qv2, .int .i64 op, y5, y6, y7, y8, y9, y10, y11, y12, y13, y14, y15, y16]) (by repeat constructor)⟩, M.out.blk (g2, 106, #[.int .i64 k, .slice (some ⟨p1, o1, none⟩) N q1, .bool qa1, qv1, .int .i64 op, x5, x6, x7, x8, x9, x10, x11, x12, x13, x14, x15, x16]) (by repeat constructor)⟩ ?_
        refine tkp 8 rfl ⟨⟨M.out.now, M.out.blk (g3, 106, #[.int .i64 k, .slice (some ⟨p2, o2, none⟩) N q2, .bool qa2, qv2, .int .i64 op, y5, y6, y7, y8, y9, y10, y11, y12, y13, y14, y15, y16]) (by repeat constructor)⟩, M.out.blk (g2, 106, #[.int .i64 k, .slice (some ⟨p1, o1, none⟩) N q1, .bool qa1, qv1, .int .i64 op, x5, x6, x7, x8, x9, x10, x11, x12, x13, x14, x15, x16]) (by repeat constructor)⟩ ?_
        refine tk 9 rfl ⟨⟨M.out.now, M.out.blk (g3, 106, #[.int .i64 k, .slice (some ⟨p2, o2, none⟩) N q2, .bool qa2, qv2, .int .i64 op, y5, y6, y7, y8, y9, y10, y11, y12, y13, y14, y15, y16]) (by repeat constructor)⟩, M.out.blk (g2, 106, #[.int .i64 k, .slice (some ⟨p1, o1, none⟩) N q1, .bool qa1, qv1, .int .i64 op, x5, x6, x7, x8, x9, x10, x11, x12, x13, x14, x15, x16]) (by repeat constructor)⟩ (y_ldf F_Ex _ p2 (o2 + j * 17) rfl (c2 j) (fun y h => HR2.out j hlt y h.1.1) (HN2.out j hlt)) ?_
        refine tr [10] ?_
        refine rdy_call (HC.out j hlt _ M.out.now) (i := 10) (op := .call _) rfl (by go_simp) ?_ ?_
        · rintro e_ w' ⟨rfl, hb⟩; replace M := Lib.hid (M.out.bel hb); clear hb; refine ⟨_, rfl, ?_⟩; refine ⟨⟨⟨M.out.now, M.out.blk (g3, 106, #[.int .i64 k, .slice (some ⟨p2, o2, none⟩) N q2, .bool qa2, qv2, .int .i64 op, y5, y6, y7, y8, y9, y10, y11, y12, y13, y14, y15, y16]) (by repeat constructor)⟩, M.out.blk (g2, 106, #[.int .i64 k, .slice (some ⟨p1, o1, none⟩) N q1, .bool qa1, qv1, .int .i64 op, x5, x6, x7, x8, x9, x10, x11, x12, x13, x14, x15, x16]) (by repeat constructor)⟩, tn ?_⟩
          refine tkp 11 rfl ⟨⟨M.out.now, M.out.blk (g3, 106, #[.int .i64 k, .slice (some ⟨p2, o2, none⟩) N q2, .bool qa2, qv2, .int .i64 op, y5, y6, y7, y8, y9, y10, y11, y12, y13, y14, y15, y16]) (by repeat constructor)⟩, M.out.blk (g2, 106, #[.int .i64 k, .slice (some ⟨p1, o1, none⟩) N q1, .bool qa1, qv1, .int .i64 op, x5, x6, x7, x8, x9, x10, x11, x12, x13, x14, x15, x16]) (by repeat constructor)⟩ ?_
          refine te ?_
          go_wp2
          go_ret
          exact ⟨by first | rfl | (rw [hno]; done) | (rw [hno]; rfl), M.out.bel0⟩
        exact .nil
      · have hcj := HC.out j hlt
        rw [ha] at hcj
        have HC := Lib.hid (fun (j' : Nat) (_ : j < N) => hcj)
        replace M := Lib.hid M.out.drew
        refine tb (fun y => (J0 y ∧ Blk y g3 106 #[.int .i64 k, .slice (some ⟨p2, o2, none⟩) N q2, .bool qa2, qv2, .int .i64 op, y5, y6, y7, y8, y9, y10, y11, y12, y13, y14, y15, y16]) ∧ Blk y g2 106 #[.int .i64 k, .slice (some ⟨p1, o1, none⟩) N q1, .bool qa1, qv1, .int .i64 op, x5, x6, x7, x8, x9, x10, x11, x12, x13, x14, x15, x16]) ⟨⟨M.out.now, M.out.blk (g3, 106, #[.int .i64 k, .slice (some ⟨p2, o2, none⟩) N q2, .bool qa2, qv2, .int .i64 op, y5, y6, y7, y8, y9, y10, y11, y12, y13, y14, y15, y16]) (by repeat constructor)⟩, M.out.blk (g2, 106, #[.int .i64 k, .slice (some ⟨p1, o1, none⟩) N q1, .bool qa1, qv1, .int .i64 op, x5, x6, x7, x8, x9, x10, x11, x12, x13, x14, x15, x16]) (by repeat constructor)⟩ ?_
        refine tkp 0 rfl ⟨⟨M.out.now, M.out.blk (g3, 106, #[.int .i64 k, .slice (some ⟨p2, o2, none⟩) N q2, .bool qa2, qv2, .int .i64 op, y5, y6, y7, y8, y9, y10, y11, y12, y13, y14, y15, y16]) (by repeat constructor)⟩, M.out.blk (g2, 106, #[.int .i64 k, .slice (some ⟨p1, o1, none⟩) N q1, .bool qa1, qv1, .int .i64 op, x5, x6, x7, x8, x9, x10, x11, x12, x13, x14, x15, x16]) (by repeat constructor)⟩ ?_
        refine tk 1 rfl ⟨⟨M.out.now, M.out.blk (g3, 106, #[.int .i64 k, .slice (some ⟨p2, o2, none⟩) N q2, .bool qa2, qv2, .int .i64 op, y5, y6, y7, y8, y9, y10, y11, y12, y13, y14, y15, y16]) (by repeat constructor)⟩, M.out.blk (g2, 106, #[.int .i64 k, .slice (some ⟨p1, o1, none⟩) N q1, .bool qa1, qv1, .int .i64 op, x5, x6, x7, x8, x9, x10, x11, x12, x13, x14, x15, x16]) (by repeat constructor)⟩ (y_ld1 O_sEx _ g2 1 rfl _ _ (fun y h => h.2) _ rfl) ?_
        refine tkp 2 rfl ⟨⟨M.out.now, M.out.blk (g3, 106, #[.int .i64 k, .slice (some ⟨p2, o2, none⟩) N q2, .bool qa2, qv2, .int .i64 op, y5, y6, y7, y8, y9, y10, y11, y12, y13, y14, y15, y16]) (by repeat constructor)⟩, M.out.blk (g2, 106, #[.int .i64 k, .slice (some ⟨p1, o1, none⟩) N q1, .bool qa1, qv1, .int .i64 op, x5, x6, x7, x8, x9, x10, x11, x12, x13, x14, x15, x16]) (by repeat constructor)⟩ ?_
        refine tkp 3 rfl ⟨⟨M.out.now, M.out.blk (g3, 106, #[.int .i64 k, .slice (some ⟨p2, o2, none⟩) N q2, .bool qa2, qv2, .int .i64 op, y5, y6, y7, y8, y9, y10, y11, y12, y13, y14, y15, y16]) (by repeat constructor)⟩, M.out.blk (g2, 106, #[.int .i64 k, .slice (some ⟨p1, o1, none⟩) N q1, .bool qa1, qv1, .int .i64 op, x5, x6, x7, x8, x9, x10, x11, x12, x13, x14, x15, x16]) (by repeat constructor)⟩ ?_
        refine tk 4 rfl ⟨⟨M.out.now, M.out.blk (g3, 106, #[.int .i64 k, .slice (some ⟨p2, o2, none⟩) N q2, .bool qa2, qv2, .int .i64 op, y5, y6, y7, y8, y9, y10, y11, y12, y13, y14, y15, y16]) (by repeat constructor)⟩, M.out.blk (g2, 106, #[.int .i64 k, .slice (some ⟨p1, o1, none⟩) N q1, .bool qa1, qv1, .int .i64 op, x5, x6, x7, x8, x9, x10, x11, x12, x13, x14, x15, x16]) (by repeat constructor)⟩ (y_ldf F_Ex _ p1 (o1 + j * 17) rfl (c1 j) (fun y h => HR1.out j hlt y h.1.1) (HN1.out j hlt)) ?_
        refine tkp 5 rfl ⟨⟨M.out.now, M.out.blk (g3, 106, #[.int .i64 k, .slice (some ⟨p2, o2, none⟩) N q2, .bool qa2, qv2, .int .i64 op, y5, y6, y7, y8, y9, y10, y11, y12, y13, y14, y15, y16]) (by repeat constructor)⟩, M.out.blk (g2, 106, #[.int .i64 k, .slice (some ⟨p1, o1, none⟩) N q1, .bool qa1, qv1, .int .i64 op, x5, x6, x7, x8, x9, x10, x11, x12, x13, x14, x15, x16]) (by repeat constructor)⟩ ?_
        refine tk 6 rfl ⟨⟨M.out.now, M.out.blk (g3, 106, #[.int .i64 k, .slice (some ⟨p2, o2, none⟩) N q2, .bool qa2, qv2, .int .i64 op, y5, y6, y7, y8, y9, y10, y11, y12, y13, y14, y15, y16]) (by repeat constructor)⟩, M.out.blk (g2, 106, #[.int .i64 k, .slice (some ⟨p1, o1, none⟩) N q1, .bool qa1, qv1, .int .i64 op, x5, x6, x7, x8, x9, x10, x11, x12, x13, x14, x15, x16]) (by repeat constructor)⟩ (y_ld1 O_sEx _ g3 1 rfl _ _ (fun y h => h.1.2) _ rfl) ?_
        refine tkp 7 rfl ⟨⟨M.out.now, M.out.blk (g3, 106, #[.int .i64 k, .slice (some ⟨p2, o2, none⟩) N q2, .bool qa2, qv2, .int .i64 op, y5, y6, y7, y8, y9, y10, y11, y12, y13, y14, y15, y16]) (by repeat constructor)⟩, M.out.blk (g2, 106, #[.int .i64 k, .slice (some ⟨p1, o1, none⟩) N q1, .bool qa1, qv1, .int .i64 op, x5, x6, x7, x8, x9, x10, x11, x12, x13, x14, x15, x16]) (by repeat constructor)⟩ ?_
        refine tkp 8 rfl ⟨⟨M.out.now, M.out.blk (g3, 106, #[.int .i64 k, .slice (some ⟨p2, o2, none⟩) N q2, .bool qa2, qv2, .int .i64 op, y5, y6, y7, y8, y9, y10, y11, y12, y13, y14, y15, y16]) (by repeat constructor)⟩, M.out.blk (g2, 106, #[.int .i64 k, .slice (some ⟨p1, o1, none⟩) N q1, .bool qa1, qv1, .int .i64 op, x5, x6, x7, x8, x9, x10, x11, x12, x13, x14, x15, x16]) (by repeat constructor)⟩ ?_
        refine tk 9 rfl ⟨⟨M.out.now, M.out.blk (g3, 106, #[.int .i64 k, .slice (some ⟨p2, o2, none⟩) N q2, .bool qa2, qv2, .int .i64 op, y5, y6, y7, y8, y9, y10, y11, y12, y13, y14, y15, y16]) (by repeat constructor)⟩, M.out.blk (g2, 106, #[.int .i64 k, .slice (some ⟨p1, o1, none⟩) N q1, .bool qa1, qv1, .int .i64 op, x5, x6, x7, x8, x9, x10, x11, x12, x13, x14, x15, x16]) (by repeat constructor)⟩ (y_ldf F_Ex _ p2 (o2 + j * 17) rfl (c2 j) (fun y h => HR2.out j hlt y h.1.1) (HN2.out j hlt)) ?_
        refine tr [10] ?_
        refine rdy_call (HC.out j hlt _ M.out.now) (i := 10) (op := .call _) rfl (by go_simp) ?_ ?_
        · rintro e_ w' ⟨rfl, hb⟩; replace M := Lib.hid (M.out.bel hb); clear hb; refine ⟨_, rfl, ?_⟩; refine ⟨⟨⟨M.out.now, M.out.blk (g3, 106, #[.int .i64 k, .slice (some ⟨p2, o2, none⟩) N q2, .bool qa2, qv2, .int .i64 op, y5, y6, y7, y8, y9, y10, y11, y12, y13, y14, y15, y16]) (by repeat constructor)⟩, M.out.blk (g2, 106, #[.int .i64 k, .slice (some ⟨p1, o1, none⟩) N q1, .bool qa1, qv1, .int .i64 op, x5, x6, x7, x8, x9, x10, x11, x12, x13, x14, x15, x16]) (by repeat constructor)⟩, tn ?_⟩
          refine tkp 11 rfl ⟨⟨M.out.now, M.out.blk (g3, 106, #[.int .i64 k, .slice (some ⟨p2, o2, none⟩) N q2, .bool qa2, qv2, .int .i64 op, y5, y6, y7, y8, y9, y10, y11, y12, y13, y14, y15, y16]) (by repeat constructor)⟩, M.out.blk (g2, 106, #[.int .i64 k, .slice (some ⟨p1, o1, none⟩) N q1, .bool qa1, qv1, .int .i64 op, x5, x6, x7, x8, x9, x10, x11, x12, x13, x14, x15, x16]) (by repeat constructor)⟩ ?_
          refine te ?_
          go_wp2
          go_roundg (N - (j + 1))
          case measure => rw [HG.out]; omega
          case rel => exact ⟨j + 1, by omega, rfl, by go_num, Lib.hid (fun i hi => if e : i = j then e ▸ ha else HA.out i (by omega)), M⟩
        exact .nil
    · obtain rfl : j = N := by omega
      go_wp2_with (first | ((with_reducible refine g_ld 102 ?_); refine l_ld1 O_sEx rfl M.out (by repeat constructor) (by exact rfl) ?_))
      go_ret
      exact ⟨by first | rfl | (rw [HB.out.2 HA.out]; done) | (rw [HB.out.2 HA.out]; rfl), M.out.bel0⟩

end Go.Proofs.YtpcbcodmocmilaaGreatDoor
