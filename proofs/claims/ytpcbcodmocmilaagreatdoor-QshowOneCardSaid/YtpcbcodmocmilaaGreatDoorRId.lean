/- ref17: Same, of any two (printed by gen_id.py). -/
import Derived.Test.YtpcbcodmocmilaaGreatDoorRIc
namespace Go.Proofs.YtpcbcodmocmilaaGreatDoor
open Go.RowKit

structure SgF where
  d : Bool
  B : Option Addr
  n : Nat
  e : Nat
  u : Nat
  v : Nat
  s : Nat → List Value
/-- A row of segments that F tells. -/
structure SgOK (J : World → Prop) (p o N : Nat) (F : Nat → SgF) : Prop where
  cell : ∀ i, i < N → ∀ y, J y → y.rangeAt p (o + i * 2) [.bool (F i).d, .slice (F i).B (F i).n (F i).e]
  cap : ∀ i, i < N → (F i).n ≤ 9223372036854775807
  addr : ∀ i, i < N → 0 < (F i).n → (F i).B = some ⟨(F i).u, (F i).v, none⟩
  len : ∀ i j, i < N → j < (F i).n → ((F i).s j).length = 9
  sel : ∀ i j, i < N → j < (F i).n → ∀ y, J y → y.rangeAt (F i).u ((F i).v + j * 9) ((F i).s j)
theorem SgOK.opened {J : World → Prop} {p o N : Nat} {F : Nat → SgF} (h : SgOK J p o N F) {i : Nat} (hi : i < N) : ∃ d B n e u v s, F i = ⟨d, B, n, e, u, v, s⟩ ∧ (∀ y, J y → y.rangeAt p (o + i * 2) [.bool d, .slice B n e]) ∧ n ≤ 9223372036854775807 ∧ (0 < n → B = some ⟨u, v, none⟩) ∧ (∀ j, j < n → (s j).length = 9) ∧ ∀ j, j < n → ∀ y, J y → y.rangeAt u (v + j * 9) (s j) :=
  ⟨_, _, _, _, _, _, _, rfl, h.cell i hi, h.cap i hi, h.addr i hi, fun j => h.len i j hi, fun j => h.sel i j hi⟩
theorem Own.swapI {X : List Nat} {w0 w : World} {a b : BlkE} {L : List BlkE} {rs : List RowE} {J : World → Prop} (M : Own X w0 w (a :: b :: L) rs J) : Own X w0 w (b :: a :: L) rs J := by
  have hm : ∀ {x : BlkE}, x ∈ b :: a :: L ↔ x ∈ a :: b :: L := fun {x} => by simp only [List.mem_cons]; constructor <;> rintro (h | h | h) <;> simp [h]
  have he : ∀ {x : Nat}, x ∈ exO (b :: a :: L) rs ↔ x ∈ exO (a :: b :: L) rs := fun {x} => by simp only [exO, List.map_cons, List.cons_append, List.mem_cons]; constructor <;> rintro (h | h | h) <;> simp [h]
  exact ⟨M.os, M.output, M.size, M.out, fun x hx => M.low x (hm.1 hx), fun x hx => M.blk x (hm.1 hx), M.row, (List.Perm.swap _ _ _).nodup_iff.1 M.nodup, fun y hy => M.always y ⟨hy.1, fun b h1 h2 => hy.2 b h1 fun h => h2 (he.1 h)⟩⟩

set_option maxRecDepth 100000 in
set_option maxHeartbeats 2000000 in
theorem same_no (a1 a2 : Bool) (A1 A2 : Option Addr) (N1 N2 c1 c2 : Nat) (w : World) (h : a1 ≠ a2 ∨ (a1 = a2 ∧ (N1 : Int) ≠ (N2 : Int))) : Calls Tryz.prog 19 #[.agg #[.bool a1, .slice A1 N1 c1], .agg #[.bool a2, .slice A2 N2 c2]] w (fun e w' => e = .returned (.bool false) ∧ Bel w.heap.size w w') := by
  have M := Lib.hid (Own.start [] w (fun _ => True) fun _ _ => trivial)
  rcases h with h | ⟨rfl, h⟩
  all_goals
    first | replace h := i_ne h | (have h2 := b_x h; replace h := b_ne h)
    go_enter Tryz.func19, Tryz.ntmps19
    go_wp2_with (first | ((with_reducible refine g_bx 37 2 ?_); refine l_bx rfl M.out ?_; clear M; intro g2 w' hg2 M) | ((with_reducible refine g_bx 37 3 ?_); refine l_bx rfl M.out ?_; clear M; intro g3 w' hg3 M) | ((with_reducible refine g_ld 4 ?_); refine l_ld1 O_bool rfl M.out (by repeat constructor) (by exact rfl) ?_) | ((with_reducible refine g_ld 35 ?_); refine l_ld1 O_sSeg rfl M.out (by repeat constructor) (by exact rfl) ?_) | ((with_reducible refine q_gl 4 ?_); refine q_ld1g O_bool rfl rfl M.out (by repeat constructor) (by exact rfl) ?_) | ((with_reducible refine q_gl 35 ?_); refine q_ld1g O_sSeg rfl rfl M.out (by repeat constructor) (by exact rfl) ?_))
    go_ret
    exact ⟨rfl, M.out.bel0⟩
set_option maxRecDepth 100000 in
set_option maxHeartbeats 2000000 in
theorem same_all (ab : Bool) (A1 A2 : Option Addr) (N q1 q2 : Nat) (w : World) (J0 : World → Prop) (h0 : ∀ y, Kept [] w y → J0 y) (p1 o1 p2 o2 : Nat) (hA : 0 < N → A1 = some ⟨p1, o1, none⟩ ∧ A2 = some ⟨p2, o2, none⟩) (hN : N ≤ 9223372036854775807) (F G : Nat → SgF) (ho1 : SgOK J0 p1 o1 N F) (ho2 : SgOK J0 p2 o2 N G) (ans : Nat → Nat → Bool)
    (hc : ∀ i j, i < N → j < (F i).n → j < (G i).n → ∀ y, J0 y → Calls Tryz.prog 36 #[.agg ((F i).s j).toArray, .agg ((G i).s j).toArray] y fun e w' => e = .returned (.bool (ans i j)) ∧ Bel y.heap.size y w') (b : Bool) (hb : b = true ↔ ∀ i, i < N → (F i).d = (G i).d ∧ (F i).n = (G i).n ∧ ∀ j, j < (F i).n → ans i j = true) :
    Calls Tryz.prog 19 #[.agg #[.bool ab, .slice A1 N q1], .agg #[.bool ab, .slice A2 N q2]] w (fun e w' => e = .returned (.bool b) ∧ Bel w.heap.size w w') := by
  have M := Lib.hid (Own.start [] w J0 h0)
  have HO1 := Lib.hid ho1
  have HO2 := Lib.hid ho2
  have HCC := Lib.hid hc
  have HB := Lib.hid hb
  clear h0 ho1 ho2 hc hb
  go_enter Tryz.func19, Tryz.ntmps19
  go_wp2_with (first | ((with_reducible refine g_bx 37 2 ?_); refine l_bx rfl M.out ?_; clear M; intro g2 w' hg2 M) | ((with_reducible refine g_bx 37 3 ?_); refine l_bx rfl M.out ?_; clear M; intro g3 w' hg3 M) | ((with_reducible refine g_ld 4 ?_); refine l_ld1 O_bool rfl M.out (by repeat constructor) (by exact rfl) ?_) | ((with_reducible refine g_ld 35 ?_); refine l_ld1 O_sSeg rfl M.out (by repeat constructor) (by exact rfl) ?_) | ((with_reducible refine q_gl 4 ?_); refine q_ld1g O_bool rfl rfl M.out (by repeat constructor) (by exact rfl) ?_) | ((with_reducible refine q_gl 35 ?_); refine q_ld1g O_sSeg rfl rfl M.out (by repeat constructor) (by exact rfl) ?_) | ((with_reducible refine g_ld 4 ?_); refine l_ld1 O_bool rfl M.out (by repeat constructor) (by exact rfl) ?_) | ((with_reducible refine g_ld 42 ?_); refine l_ld1 O_sSel rfl M.out (by repeat constructor) (by exact rfl) ?_) | ((with_reducible refine q_gl 4 ?_); refine q_ld1g O_bool rfl rfl M.out (by repeat constructor) (by exact rfl) ?_) | ((with_reducible refine q_gl 42 ?_); refine q_ld1g O_sSel rfl rfl M.out (by repeat constructor) (by exact rfl) ?_))
  go_loopg [5] N (fun gk ii wr => ∃ i : Nat, i ≤ N ∧ gk = N - i ∧ ii = .int .i64 i ∧ Hid (∀ k, k < i → (F k).d = (G k).d ∧ (F k).n = (G k).n ∧ ∀ j, j < (F k).n → ans k j = true) ∧ Hid (Own [] w wr [(g3, 37, #[.bool ab, .slice A2 N q2]), (g2, 37, #[.bool ab, .slice A1 N q1])] [] J0))
  case atStart => exact ⟨0, Nat.zero_le _, rfl, rfl, Lib.hid (fun i hi => absurd hi (by omega)), M⟩
  case round =>
    clear M
    obtain ⟨i, hi, hgk, rfl, HA, M⟩ := hrel
    have HGK := Lib.hid hgk
    clear hgk
    by_cases hlt : i < N
    · obtain ⟨rfl, rfl⟩ := hA (by omega)
      have hlti : (i : Int) < (N : Int) := by omega
      obtain ⟨d1, B1, n1, e1, u1, v1, s1, hF, hc1, hx1, ha1, hl1, hs1⟩ := HO1.out.opened hlt
      obtain ⟨d2, B2, n2, e2, u2, v2, s2, hG, hc2, hx2, ha2, hl2, hs2⟩ := HO2.out.opened hlt
      have hk := HCC.out i
      rw [hF, hG] at hk
      dsimp only at hk
      have hno : ¬ (d1 = d2 ∧ n1 = n2 ∧ ∀ j, j < n1 → ans i j = true) → b = false := fun h => by
        cases hbb : b with
        | false => rfl
        | true =>
          have := HB.out.1 hbb i hlt
          rw [hF, hG] at this
          exact absurd this h
      have HC1 := Lib.hid hc1
      have HC2 := Lib.hid hc2
      have HL1 := Lib.hid hl1
      have HL2 := Lib.hid hl2
      have HS1 := Lib.hid hs1
      have HS2 := Lib.hid hs2
      have HK := Lib.hid hk
      have HNO := Lib.hid hno
      have HF := Lib.hid hF
      have HG := Lib.hid hG
      clear hc1 hc2 hl1 hl2 hs1 hs2 hk hno hF hG
      go_upto_region 6 with (first | ((with_reducible refine g_ld 35 ?_); refine l_ld1 O_sSeg rfl M.out (by repeat constructor) (by exact rfl) ?_))
      go_cut [6, 7, 30, 31, 32, 33, 34, 35, 36, 37, 38, 39] (fun v6 v7 _ _ _ _ _ _ _ _ _ _ wx => ∃ g6 g7 : Nat, v6 = .pointer (some ⟨g6, 0, none⟩) ∧ v7 = .pointer (some ⟨g7, 0, none⟩) ∧ Hid (Own [] w wx [(g7, 44, #[.bool d2, .slice B2 n2 e2]), (g6, 44, #[.bool d1, .slice B1 n1 e1]), (g3, 37, #[.bool ab, .slice (some ⟨p2, o2, none⟩) N q2]), (g2, 37, #[.bool ab, .slice (some ⟨p1, o1, none⟩) N q1])] [] J0))
      case first =>
        replace M := Lib.hid M.out.drew
        refine tb (fun y => (J0 y ∧ Blk y g3 37 #[.bool ab, .slice (some ⟨p2, o2, none⟩) N q2]) ∧ Blk y g2 37 #[.bool ab, .slice (some ⟨p1, o1, none⟩) N q1]) ⟨⟨M.out.now, M.out.blk (g3, 37, #[.bool ab, .slice (some ⟨p2, o2, none⟩) N q2]) (by repeat constructor)⟩, M.out.blk (g2, 37, #[.bool ab, .slice (some ⟨p1, o1, none⟩) N q1]) (by repeat constructor)⟩ ?_
        refine tkp 0 rfl ⟨⟨M.out.now, M.out.blk (g3, 37, #[.bool ab, .slice (some ⟨p2, o2, none⟩) N q2]) (by repeat constructor)⟩, M.out.blk (g2, 37, #[.bool ab, .slice (some ⟨p1, o1, none⟩) N q1]) (by repeat constructor)⟩ ?_
        refine tk 1 rfl ⟨⟨M.out.now, M.out.blk (g3, 37, #[.bool ab, .slice (some ⟨p2, o2, none⟩) N q2]) (by repeat constructor)⟩, M.out.blk (g2, 37, #[.bool ab, .slice (some ⟨p1, o1, none⟩) N q1]) (by repeat constructor)⟩ (y_ld1 O_sSeg _ g2 1 rfl _ _ (fun y h => h.2) _ rfl) ?_
        refine tkp 2 rfl ⟨⟨M.out.now, M.out.blk (g3, 37, #[.bool ab, .slice (some ⟨p2, o2, none⟩) N q2]) (by repeat constructor)⟩, M.out.blk (g2, 37, #[.bool ab, .slice (some ⟨p1, o1, none⟩) N q1]) (by repeat constructor)⟩ ?_
        refine tkp 3 rfl ⟨⟨M.out.now, M.out.blk (g3, 37, #[.bool ab, .slice (some ⟨p2, o2, none⟩) N q2]) (by repeat constructor)⟩, M.out.blk (g2, 37, #[.bool ab, .slice (some ⟨p1, o1, none⟩) N q1]) (by repeat constructor)⟩ ?_
        refine tk 4 rfl ⟨⟨M.out.now, M.out.blk (g3, 37, #[.bool ab, .slice (some ⟨p2, o2, none⟩) N q2]) (by repeat constructor)⟩, M.out.blk (g2, 37, #[.bool ab, .slice (some ⟨p1, o1, none⟩) N q1]) (by repeat constructor)⟩ (y_ldf F_Seg _ p1 (o1 + i * 2) rfl _ (fun y h => HC1.out y h.1.1) rfl) ?_
        refine tkp 5 rfl ⟨⟨M.out.now, M.out.blk (g3, 37, #[.bool ab, .slice (some ⟨p2, o2, none⟩) N q2]) (by repeat constructor)⟩, M.out.blk (g2, 37, #[.bool ab, .slice (some ⟨p1, o1, none⟩) N q1]) (by repeat constructor)⟩ ?_
        refine tk 6 rfl ⟨⟨M.out.now, M.out.blk (g3, 37, #[.bool ab, .slice (some ⟨p2, o2, none⟩) N q2]) (by repeat constructor)⟩, M.out.blk (g2, 37, #[.bool ab, .slice (some ⟨p1, o1, none⟩) N q1]) (by repeat constructor)⟩ (y_ld1 O_sSeg _ g3 1 rfl _ _ (fun y h => h.1.2) _ rfl) ?_
        refine tkp 7 rfl ⟨⟨M.out.now, M.out.blk (g3, 37, #[.bool ab, .slice (some ⟨p2, o2, none⟩) N q2]) (by repeat constructor)⟩, M.out.blk (g2, 37, #[.bool ab, .slice (some ⟨p1, o1, none⟩) N q1]) (by repeat constructor)⟩ ?_
        refine tkp 8 rfl ⟨⟨M.out.now, M.out.blk (g3, 37, #[.bool ab, .slice (some ⟨p2, o2, none⟩) N q2]) (by repeat constructor)⟩, M.out.blk (g2, 37, #[.bool ab, .slice (some ⟨p1, o1, none⟩) N q1]) (by repeat constructor)⟩ ?_
        refine tk 9 rfl ⟨⟨M.out.now, M.out.blk (g3, 37, #[.bool ab, .slice (some ⟨p2, o2, none⟩) N q2]) (by repeat constructor)⟩, M.out.blk (g2, 37, #[.bool ab, .slice (some ⟨p1, o1, none⟩) N q1]) (by repeat constructor)⟩ (y_ldf F_Seg _ p2 (o2 + i * 2) rfl _ (fun y h => HC2.out y h.1.1) rfl) ?_
        refine tr [10, 11] ?_
        refine r_al F_Seg (i := 10) rfl M.out ?_ ?_
        · clear M; intro g6 w' hg6 M; refine ⟨⟨⟨M.out.now, M.out.blk (g3, 37, #[.bool ab, .slice (some ⟨p2, o2, none⟩) N q2]) (by repeat constructor)⟩, M.out.blk (g2, 37, #[.bool ab, .slice (some ⟨p1, o1, none⟩) N q1]) (by repeat constructor)⟩, tn ?_⟩
          refine tr [11] ?_
          refine r_al F_Seg (i := 11) rfl M.out ?_ ?_
          · clear M; intro g7 w' hg7 M; refine ⟨⟨⟨M.out.now, M.out.blk (g3, 37, #[.bool ab, .slice (some ⟨p2, o2, none⟩) N q2]) (by repeat constructor)⟩, M.out.blk (g2, 37, #[.bool ab, .slice (some ⟨p1, o1, none⟩) N q1]) (by repeat constructor)⟩, tn ?_⟩
            refine tr [12] ?_
            refine r_st F_Seg (i := 12) rfl rfl rfl M.out (by repeat constructor) (by exact rfl) (by exact rfl) (by exact rfl) ?_ ?_
            · clear M; intro w' M; refine ⟨⟨⟨M.out.now, M.out.blk (g3, 37, #[.bool ab, .slice (some ⟨p2, o2, none⟩) N q2]) (by repeat constructor)⟩, M.out.blk (g2, 37, #[.bool ab, .slice (some ⟨p1, o1, none⟩) N q1]) (by repeat constructor)⟩, tn ?_⟩
              refine tr [13] ?_
              refine r_st F_Seg (i := 13) rfl rfl rfl M.out (by repeat constructor) (by exact rfl) (by exact rfl) (by exact rfl) ?_ ?_
              · clear M; intro w' M; refine ⟨⟨⟨M.out.now, M.out.blk (g3, 37, #[.bool ab, .slice (some ⟨p2, o2, none⟩) N q2]) (by repeat constructor)⟩, M.out.blk (g2, 37, #[.bool ab, .slice (some ⟨p1, o1, none⟩) N q1]) (by repeat constructor)⟩, tn ?_⟩
                refine te ?_
                go_wp2
                go_meet
                case rel => first | exact ⟨g6, g7, rfl, rfl, M⟩ | exact ⟨g6, g7, rfl, rfl, Lib.hid M.out.swapI⟩
              exact .nil
            exact .nil
          exact .nil
        refine r_al F_Seg (i := 11) rfl M.out ?_ ?_
        · clear M; intro g7 w' hg7 M; refine ⟨⟨⟨M.out.now, M.out.blk (g3, 37, #[.bool ab, .slice (some ⟨p2, o2, none⟩) N q2]) (by repeat constructor)⟩, M.out.blk (g2, 37, #[.bool ab, .slice (some ⟨p1, o1, none⟩) N q1]) (by repeat constructor)⟩, tn ?_⟩
          refine tr [10] ?_
          refine r_al F_Seg (i := 10) rfl M.out ?_ ?_
          · clear M; intro g6 w' hg6 M; refine ⟨⟨⟨M.out.now, M.out.blk (g3, 37, #[.bool ab, .slice (some ⟨p2, o2, none⟩) N q2]) (by repeat constructor)⟩, M.out.blk (g2, 37, #[.bool ab, .slice (some ⟨p1, o1, none⟩) N q1]) (by repeat constructor)⟩, tn ?_⟩
            refine tr [12] ?_
            refine r_st F_Seg (i := 12) rfl rfl rfl M.out (by repeat constructor) (by exact rfl) (by exact rfl) (by exact rfl) ?_ ?_
            · clear M; intro w' M; refine ⟨⟨⟨M.out.now, M.out.blk (g3, 37, #[.bool ab, .slice (some ⟨p2, o2, none⟩) N q2]) (by repeat constructor)⟩, M.out.blk (g2, 37, #[.bool ab, .slice (some ⟨p1, o1, none⟩) N q1]) (by repeat constructor)⟩, tn ?_⟩
              refine tr [13] ?_
              refine r_st F_Seg (i := 13) rfl rfl rfl M.out (by repeat constructor) (by exact rfl) (by exact rfl) (by exact rfl) ?_ ?_
              · clear M; intro w' M; refine ⟨⟨⟨M.out.now, M.out.blk (g3, 37, #[.bool ab, .slice (some ⟨p2, o2, none⟩) N q2]) (by repeat constructor)⟩, M.out.blk (g2, 37, #[.bool ab, .slice (some ⟨p1, o1, none⟩) N q1]) (by repeat constructor)⟩, tn ?_⟩
                refine te ?_
                go_wp2
                go_meet
                case rel => first | exact ⟨g6, g7, rfl, rfl, M⟩ | exact ⟨g6, g7, rfl, rfl, Lib.hid M.out.swapI⟩
              exact .nil
            exact .nil
          exact .nil
        exact .nil
      case rest =>
      clear M HC1 HC2
      obtain ⟨g6, g7, rfl, rfl, M⟩ := hcut
      by_cases hd : d1 = d2; rotate_left
      · have hdb := b_ne hd
        have hdx := b_x hd
        go_wp2_with (first | ((with_reducible refine g_ld 4 ?_); refine l_ld1 O_bool rfl M.out (by repeat constructor) (by exact rfl) ?_) | ((with_reducible refine g_ld 35 ?_); refine l_ld1 O_sSeg rfl M.out (by repeat constructor) (by exact rfl) ?_) | ((with_reducible refine g_ld 42 ?_); refine l_ld1 O_sSel rfl M.out (by repeat constructor) (by exact rfl) ?_) | ((with_reducible refine q_gl 4 ?_); refine q_ld1g O_bool rfl rfl M.out (by repeat constructor) (by exact rfl) ?_) | ((with_reducible refine q_gl 42 ?_); refine q_ld1g O_sSel rfl rfl M.out (by repeat constructor) (by exact rfl) ?_))
        go_ret
        exact ⟨by first | rfl | (rw [HNO.out fun h => hd h.1]; done) | (rw [HNO.out fun h => hd h.1]; rfl), M.out.bel0⟩
      subst hd
      by_cases hn : n1 = n2; rotate_left
      · have hnb : ((n1 : Int) != (n2 : Int)) = true := i_ne (by omega)
        go_wp2_with (first | ((with_reducible refine g_ld 4 ?_); refine l_ld1 O_bool rfl M.out (by repeat constructor) (by exact rfl) ?_) | ((with_reducible refine g_ld 35 ?_); refine l_ld1 O_sSeg rfl M.out (by repeat constructor) (by exact rfl) ?_) | ((with_reducible refine g_ld 42 ?_); refine l_ld1 O_sSel rfl M.out (by repeat constructor) (by exact rfl) ?_) | ((with_reducible refine q_gl 4 ?_); refine q_ld1g O_bool rfl rfl M.out (by repeat constructor) (by exact rfl) ?_) | ((with_reducible refine q_gl 42 ?_); refine q_ld1g O_sSel rfl rfl M.out (by repeat constructor) (by exact rfl) ?_))
        go_ret
        exact ⟨by first | rfl | (rw [HNO.out fun h => hn h.2.1]; done) | (rw [HNO.out fun h => hn h.2.1]; rfl), M.out.bel0⟩
      subst hn
      have HC := Lib.hid (fun j hj y hy => HK.out j hlt hj hj y hy)
      clear HK
      go_wp2_with (first | ((with_reducible refine g_bx 37 2 ?_); refine l_bx rfl M.out ?_; clear M; intro g2 w' hg2 M) | ((with_reducible refine g_bx 37 3 ?_); refine l_bx rfl M.out ?_; clear M; intro g3 w' hg3 M) | ((with_reducible refine g_ld 4 ?_); refine l_ld1 O_bool rfl M.out (by repeat constructor) (by exact rfl) ?_) | ((with_reducible refine g_ld 35 ?_); refine l_ld1 O_sSeg rfl M.out (by repeat constructor) (by exact rfl) ?_) | ((with_reducible refine q_gl 4 ?_); refine q_ld1g O_bool rfl rfl M.out (by repeat constructor) (by exact rfl) ?_) | ((with_reducible refine q_gl 35 ?_); refine q_ld1g O_sSeg rfl rfl M.out (by repeat constructor) (by exact rfl) ?_) | ((with_reducible refine g_ld 4 ?_); refine l_ld1 O_bool rfl M.out (by repeat constructor) (by exact rfl) ?_) | ((with_reducible refine g_ld 42 ?_); refine l_ld1 O_sSel rfl M.out (by repeat constructor) (by exact rfl) ?_) | ((with_reducible refine q_gl 4 ?_); refine q_ld1g O_bool rfl rfl M.out (by repeat constructor) (by exact rfl) ?_) | ((with_reducible refine q_gl 42 ?_); refine q_ld1g O_sSel rfl rfl M.out (by repeat constructor) (by exact rfl) ?_))
      go_loopg [8] n1 (fun gk jj wr => ∃ j : Nat, j ≤ n1 ∧ gk = n1 - j ∧ jj = .int .i64 j ∧ Hid (∀ k, k < j → ans i k = true) ∧ Hid (Own [] w wr [(g7, 44, #[.bool d1, .slice B2 n1 e2]), (g6, 44, #[.bool d1, .slice B1 n1 e1]), (g3, 37, #[.bool ab, .slice (some ⟨p2, o2, none⟩) N q2]), (g2, 37, #[.bool ab, .slice (some ⟨p1, o1, none⟩) N q1])] [] J0))
      case atStart => exact ⟨0, Nat.zero_le _, rfl, rfl, Lib.hid (fun i hi => absurd hi (by omega)), M⟩
      case round =>
        clear M
        obtain ⟨j, hj, hgj, rfl, HJ, M⟩ := hrel
        have HH := Lib.hid hgj
        clear hgj
        by_cases hlj : j < n1
        · obtain rfl := ha1 (by omega)
          obtain rfl := ha2 (by omega)
          have hljt : (j : Int) < (n1 : Int) := by omega
          have hno := HNO.out
          go_upto_region 12 with (first | ((with_reducible refine g_ld 42 ?_); refine l_ld1 O_sSel rfl M.out (by repeat constructor) (by exact rfl) ?_))
          cases ha : ans i j
          · have hcj := HC.out j hlj
            rw [ha] at hcj
            have HC := Lib.hid (fun (j' : Nat) (_ : j < n1) => hcj)
            replace M := Lib.hid M.out.drew
            refine tb (fun y => (J0 y ∧ Blk y g7 44 #[.bool d1, .slice (some ⟨u2, v2, none⟩) n1 e2]) ∧ Blk y g6 44 #[.bool d1, .slice (some ⟨u1, v1, none⟩) n1 e1]) ⟨⟨M.out.now, M.out.blk (g7, 44, #[.bool d1, .slice (some ⟨u2, v2, none⟩) n1 e2]) (by repeat constructor)⟩, M.out.blk (g6, 44, #[.bool d1, .slice (some ⟨u1, v1, none⟩) n1 e1]) (by repeat constructor)⟩ ?_
            refine tkp 0 rfl ⟨⟨M.out.now, M.out.blk (g7, 44, #[.bool d1, .slice (some ⟨u2, v2, none⟩) n1 e2]) (by repeat constructor)⟩, M.out.blk (g6, 44, #[.bool d1, .slice (some ⟨u1, v1, none⟩) n1 e1]) (by repeat constructor)⟩ ?_
            refine tk 1 rfl ⟨⟨M.out.now, M.out.blk (g7, 44, #[.bool d1, .slice (some ⟨u2, v2, none⟩) n1 e2]) (by repeat constructor)⟩, M.out.blk (g6, 44, #[.bool d1, .slice (some ⟨u1, v1, none⟩) n1 e1]) (by repeat constructor)⟩ (y_ld1 O_sSel _ g6 1 rfl _ _ (fun y h => h.2) _ rfl) ?_
            refine tkp 2 rfl ⟨⟨M.out.now, M.out.blk (g7, 44, #[.bool d1, .slice (some ⟨u2, v2, none⟩) n1 e2]) (by repeat constructor)⟩, M.out.blk (g6, 44, #[.bool d1, .slice (some ⟨u1, v1, none⟩) n1 e1]) (by repeat constructor)⟩ ?_
            refine tkp 3 rfl ⟨⟨M.out.now, M.out.blk (g7, 44, #[.bool d1, .slice (some ⟨u2, v2, none⟩) n1 e2]) (by repeat constructor)⟩, M.out.blk (g6, 44, #[.bool d1, .slice (some ⟨u1, v1, none⟩) n1 e1]) (by repeat constructor)⟩ ?_
            refine tk 4 rfl ⟨⟨M.out.now, M.out.blk (g7, 44, #[.bool d1, .slice (some ⟨u2, v2, none⟩) n1 e2]) (by repeat constructor)⟩, M.out.blk (g6, 44, #[.bool d1, .slice (some ⟨u1, v1, none⟩) n1 e1]) (by repeat constructor)⟩ (y_ldf F_Sel _ u1 (v1 + j * 9) rfl _ (fun y h => HS1.out j hlj y h.1.1) (HL1.out j hlj)) ?_
            refine tkp 5 rfl ⟨⟨M.out.now, M.out.blk (g7, 44, #[.bool d1, .slice (some ⟨u2, v2, none⟩) n1 e2]) (by repeat constructor)⟩, M.out.blk (g6, 44, #[.bool d1, .slice (some ⟨u1, v1, none⟩) n1 e1]) (by repeat constructor)⟩ ?_
            refine tk 6 rfl ⟨⟨M.out.now, M.out.blk (g7, 44, #[.bool d1, .slice (some ⟨u2, v2, none⟩) n1 e2]) (by repeat constructor)⟩, M.out.blk (g6, 44, #[.bool d1, .slice (some ⟨u1, v1, none⟩) n1 e1]) (by repeat constructor)⟩ (y_ld1 O_sSel _ g7 1 rfl _ _ (fun y h => h.1.2) _ rfl) ?_
            refine tkp 7 rfl ⟨⟨M.out.now, M.out.blk (g7, 44, #[.bool d1, .slice (some ⟨u2, v2, none⟩) n1 e2]) (by repeat constructor)⟩, M.out.blk (g6, 44, #[.bool d1, .slice (some ⟨u1, v1, none⟩) n1 e1]) (by repeat constructor)⟩ ?_
            refine tkp 8 rfl ⟨⟨M.out.now, M.out.blk (g7, 44, #[.bool d1, .slice (some ⟨u2, v2, none⟩) n1 e2]) (by repeat constructor)⟩, M.out.blk (g6, 44, #[.bool d1, .slice (some ⟨u1, v1, none⟩) n1 e1]) (by repeat constructor)⟩ ?_
            refine tk 9 rfl ⟨⟨M.out.now, M.out.blk (g7, 44, #[.bool d1, .slice (some ⟨u2, v2, none⟩) n1 e2]) (by repeat constructor)⟩, M.out.blk (g6, 44, #[.bool d1, .slice (some ⟨u1, v1, none⟩) n1 e1]) (by repeat constructor)⟩ (y_ldf F_Sel _ u2 (v2 + j * 9) rfl _ (fun y h => HS2.out j hlj y h.1.1) (HL2.out j hlj)) ?_
            refine tr [10] ?_
            refine rdy_call (HC.out j hlj _ M.out.now) (i := 10) (op := .call _) rfl (by go_simp) ?_ ?_
            · rintro e_ w' ⟨rfl, hb⟩; replace M := Lib.hid (M.out.bel hb); clear hb; refine ⟨_, rfl, ?_⟩; refine ⟨⟨⟨M.out.now, M.out.blk (g7, 44, #[.bool d1, .slice (some ⟨u2, v2, none⟩) n1 e2]) (by repeat constructor)⟩, M.out.blk (g6, 44, #[.bool d1, .slice (some ⟨u1, v1, none⟩) n1 e1]) (by repeat constructor)⟩, tn ?_⟩
              refine tkp 11 rfl ⟨⟨M.out.now, M.out.blk (g7, 44, #[.bool d1, .slice (some ⟨u2, v2, none⟩) n1 e2]) (by repeat constructor)⟩, M.out.blk (g6, 44, #[.bool d1, .slice (some ⟨u1, v1, none⟩) n1 e1]) (by repeat constructor)⟩ ?_
              refine te ?_
              go_wp2
              go_ret
              exact ⟨by first | rfl | (rw [hno fun h => by rw [h.2.2 j hlj] at ha; cases ha]; done) | (rw [hno fun h => by rw [h.2.2 j hlj] at ha; cases ha]; rfl), M.out.bel0⟩
            exact .nil
          · have hcj := HC.out j hlj
            rw [ha] at hcj
            have HC := Lib.hid (fun (j' : Nat) (_ : j < n1) => hcj)
            replace M := Lib.hid M.out.drew
            refine tb (fun y => (J0 y ∧ Blk y g7 44 #[.bool d1, .slice (some ⟨u2, v2, none⟩) n1 e2]) ∧ Blk y g6 44 #[.bool d1, .slice (some ⟨u1, v1, none⟩) n1 e1]) ⟨⟨M.out.now, M.out.blk (g7, 44, #[.bool d1, .slice (some ⟨u2, v2, none⟩) n1 e2]) (by repeat constructor)⟩, M.out.blk (g6, 44, #[.bool d1, .slice (some ⟨u1, v1, none⟩) n1 e1]) (by repeat constructor)⟩ ?_
            refine tkp 0 rfl ⟨⟨M.out.now, M.out.blk (g7, 44, #[.bool d1, .slice (some ⟨u2, v2, none⟩) n1 e2]) (by repeat constructor)⟩, M.out.blk (g6, 44, #[.bool d1, .slice (some ⟨u1, v1, none⟩) n1 e1]) (by repeat constructor)⟩ ?_
            refine tk 1 rfl ⟨⟨M.out.now, M.out.blk (g7, 44, #[.bool d1, .slice (some ⟨u2, v2, none⟩) n1 e2]) (by repeat constructor)⟩, M.out.blk (g6, 44, #[.bool d1, .slice (some ⟨u1, v1, none⟩) n1 e1]) (by repeat constructor)⟩ (y_ld1 O_sSel _ g6 1 rfl _ _ (fun y h => h.2) _ rfl) ?_
            refine tkp 2 rfl ⟨⟨M.out.now, M.out.blk (g7, 44, #[.bool d1, .slice (some ⟨u2, v2, none⟩) n1 e2]) (by repeat constructor)⟩, M.out.blk (g6, 44, #[.bool d1, .slice (some ⟨u1, v1, none⟩) n1 e1]) (by repeat constructor)⟩ ?_
            refine tkp 3 rfl ⟨⟨M.out.now, M.out.blk (g7, 44, #[.bool d1, .slice (some ⟨u2, v2, none⟩) n1 e2]) (by repeat constructor)⟩, M.out.blk (g6, 44, #[.bool d1, .slice (some ⟨u1, v1, none⟩) n1 e1]) (by repeat constructor)⟩ ?_
            refine tk 4 rfl ⟨⟨M.out.now, M.out.blk (g7, 44, #[.bool d1, .slice (some ⟨u2, v2, none⟩) n1 e2]) (by repeat constructor)⟩, M.out.blk (g6, 44, #[.bool d1, .slice (some ⟨u1, v1, none⟩) n1 e1]) (by repeat constructor)⟩ (y_ldf F_Sel _ u1 (v1 + j * 9) rfl _ (fun y h => HS1.out j hlj y h.1.1) (HL1.out j hlj)) ?_
            refine tkp 5 rfl ⟨⟨M.out.now, M.out.blk (g7, 44, #[.bool d1, .slice (some ⟨u2, v2, none⟩) n1 e2]) (by repeat constructor)⟩, M.out.blk (g6, 44, #[.bool d1, .slice (some ⟨u1, v1, none⟩) n1 e1]) (by repeat constructor)⟩ ?_
            refine tk 6 rfl ⟨⟨M.out.now, M.out.blk (g7, 44, #[.bool d1, .slice (some ⟨u2, v2, none⟩) n1 e2]) (by repeat constructor)⟩, M.out.blk (g6, 44, #[.bool d1, .slice (some ⟨u1, v1, none⟩) n1 e1]) (by repeat constructor)⟩ (y_ld1 O_sSel _ g7 1 rfl _ _ (fun y h => h.1.2) _ rfl) ?_
            refine tkp 7 rfl ⟨⟨M.out.now, M.out.blk (g7, 44, #[.bool d1, .slice (some ⟨u2, v2, none⟩) n1 e2]) (by repeat constructor)⟩, M.out.blk (g6, 44, #[.bool d1, .slice (some ⟨u1, v1, none⟩) n1 e1]) (by repeat constructor)⟩ ?_
            refine tkp 8 rfl ⟨⟨M.out.now, M.out.blk (g7, 44, #[.bool d1, .slice (some ⟨u2, v2, none⟩) n1 e2]) (by repeat constructor)⟩, M.out.blk (g6, 44, #[.bool d1, .slice (some ⟨u1, v1, none⟩) n1 e1]) (by repeat constructor)⟩ ?_
            refine tk 9 rfl ⟨⟨M.out.now, M.out.blk (g7, 44, #[.bool d1, .slice (some ⟨u2, v2, none⟩) n1 e2]) (by repeat constructor)⟩, M.out.blk (g6, 44, #[.bool d1, .slice (some ⟨u1, v1, none⟩) n1 e1]) (by repeat constructor)⟩ (y_ldf F_Sel _ u2 (v2 + j * 9) rfl _ (fun y h => HS2.out j hlj y h.1.1) (HL2.out j hlj)) ?_
            refine tr [10] ?_
            refine rdy_call (HC.out j hlj _ M.out.now) (i := 10) (op := .call _) rfl (by go_simp) ?_ ?_
            · rintro e_ w' ⟨rfl, hb⟩; replace M := Lib.hid (M.out.bel hb); clear hb; refine ⟨_, rfl, ?_⟩; refine ⟨⟨⟨M.out.now, M.out.blk (g7, 44, #[.bool d1, .slice (some ⟨u2, v2, none⟩) n1 e2]) (by repeat constructor)⟩, M.out.blk (g6, 44, #[.bool d1, .slice (some ⟨u1, v1, none⟩) n1 e1]) (by repeat constructor)⟩, tn ?_⟩
              refine tkp 11 rfl ⟨⟨M.out.now, M.out.blk (g7, 44, #[.bool d1, .slice (some ⟨u2, v2, none⟩) n1 e2]) (by repeat constructor)⟩, M.out.blk (g6, 44, #[.bool d1, .slice (some ⟨u1, v1, none⟩) n1 e1]) (by repeat constructor)⟩ ?_
              refine te ?_
              go_wp2
              go_roundg (n1 - (j + 1))
              case measure => rw [HH.out]; omega
              case rel => exact ⟨j + 1, by omega, rfl, by go_num, Lib.hid (fun k hk => if e : k = j then e ▸ ha else HJ.out k (by omega)), M⟩
            exact .nil
        · obtain rfl : j = n1 := by omega
          go_wp2_with (first | ((with_reducible refine g_ld 42 ?_); refine l_ld1 O_sSel rfl M.out (by repeat constructor) (by exact rfl) ?_))
          go_roundg (N - (i + 1))
          case measure => rw [HGK.out]; omega
          case rel => exact ⟨i + 1, by omega, rfl, by go_num, Lib.hid (fun k hk => if e : k = i then by subst e; rw [HF.out, HG.out]; exact ⟨rfl, rfl, HJ.out⟩ else HA.out k (by omega)), Lib.hid M.out.drop.drop⟩
    · obtain rfl : i = N := by omega
      go_wp2_with (first | ((with_reducible refine g_ld 35 ?_); refine l_ld1 O_sSeg rfl M.out (by repeat constructor) (by exact rfl) ?_))
      go_ret
      exact ⟨by first | rfl | (rw [HB.out.2 HA.out]; done) | (rw [HB.out.2 HA.out]; rfl), M.out.bel0⟩

end Go.Proofs.YtpcbcodmocmilaaGreatDoor
