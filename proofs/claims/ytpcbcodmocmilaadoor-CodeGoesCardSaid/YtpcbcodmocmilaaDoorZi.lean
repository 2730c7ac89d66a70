/- CodeGoes: filter (printed by gen_zi.py). -/
import Derived.Test.YtpcbcodmocmilaaDoorG47
namespace Go.Proofs.YtpcbcodmocmilaaDoor
open Go.RowKit

section
variable {P : Program} {w : World} {ops : Array Oper} {rest : List Oper} {a : Act} {Q : Exit → Act → World → Prop} {dst : Option Tmp} {tt : TypeId} {pos : String} {af : Array Edge}
theorem l_ldcg {T : TypeId} (F : OneF P T) {gd : Nat × Bool} {x : Operand} {b o : Nat} {v : Value} (hw : Region.wanted ⟨dst, .load T x, tt, pos, af, some gd⟩ (yielded ops a.tmps) = true) (hx : a.eval x = .pointer (some ⟨b, o, none⟩)) (hc : w.cell? ⟨b, o, none⟩ = some v)
    (h : wpList P ops Q rest (a.put dst v) w) : wpList P ops Q (⟨dst, .load T x, tt, pos, af, some gd⟩ :: rest) a w :=
  wpList_step fun _ hK => by rw [if_pos hw]; exact o_ld1 F hx hc (hK _ _ h)
end
/-- An instruction of a filter at k, of an expression that ends at last, of path i's. -/
def GoIns (c : CodeD) (i k last : Nat) (y : InsD) : Prop :=
  (y.op = 0 ∧ (i : Int) < y.p ∧ y.p < (c.ps.length : Nat)) ∨ (y.op = 1 ∧ (i : Int) < y.p ∧ y.p < (c.ps.length : Nat)) ∨ y.op = 2 ∨ (y.op = 3 ∧ (k : Int) < y.tt ∧ y.tt ≤ (last : Nat)) ∨ (y.op = 4 ∧ (k : Int) < y.tt ∧ y.tt ≤ (last : Nat))
structure GoF (c : CodeD) (i a m : Nat) : Prop where
  ins : ∀ j, j < m → ∃ y, c.is[a + j]? = some y ∧ GoIns c i (a + j) (a + m) y
  fin : ∃ y, c.is[a + m]? = some y ∧ y.op = 5
theorem rdd_at {α : Type} (f : α → List Value) (k : Nat) (hk : ∀ x, (f x).length = k) {J : World → Prop} {w : World} {A : Option Addr} {l : List α} {i : Nat} {x : α} (hJ : ∀ y, J y → Rdd y k A l.length (l.flatMap f)) (h : J w) (hs : ∀ a, A = some a → a.spot = none) (hx : l[i]? = some x) :
    ∃ b off, A = some ⟨b, off, none⟩ ∧ ∀ y, J y → ∀ j u, (f x)[j]? = some u → y.cell? ⟨b, off + i * k + j, none⟩ = some u := by
  have hpos : 0 < l.length := by have := (List.getElem?_eq_some_iff.1 hx).1; omega
  obtain ⟨⟨b, off, sp⟩, e, _⟩ := (hJ w h).2 hpos
  obtain rfl : sp = none := hs _ e
  refine ⟨b, off, e, fun y hy j u hu => ?_⟩
  obtain ⟨ad, e', _, hc⟩ := (hJ y hy).2 hpos
  rw [e] at e'
  cases e'
  have hj : j < k := by rw [← hk x]; exact (List.getElem?_eq_some_iff.1 hu).1
  have := hc (i * k + j) u (by rw [flat_get f k hk _ i j hj, hx]; exact hu)
  rw [add_lit, ← Nat.add_assoc] at this
  exact this

set_option maxRecDepth 100000 in
set_option maxHeartbeats 2000000 in
theorem filter_any (A1 A2 A3 A4 : Option Addr) (k1 k2 k3 k4 : Nat) (c : CodeD) (i a m : Nat) (w : World) (h : CRd w c A1 A2 A3 A4) (hs4 : ∀ a, A4 = some a → a.spot = none) (hF : GoF c i a m) (hsz : c.is.length ≤ 10000) : Calls Tryd.prog 11 #[.agg #[.slice A1 c.ps.length k1, .slice A2 c.gs.length k2, .slice A3 c.ss.length k3, .slice A4 c.is.length k4], .int .i64 (a : Int), .int .i64 (i : Int)] w fun e w' => e = .returned (.bool true) ∧ Bel w.heap.size w w' := by
  have M := Lib.hid (Own.start [] w (fun y => CRd y c A1 A2 A3 A4) fun y hy => ⟨h.p.old hy, h.g.old hy, h.s.old hy, h.i.old hy⟩)
  have HF := Lib.hid hF
  have HS4 := Lib.hid hs4
  have ham : a + m < c.is.length := by
    obtain ⟨y, hy, _⟩ := hF.fin
    exact (List.getElem?_eq_some_iff.1 hy).1
  clear h hF hs4
  go_enter Tryd.func11, Tryd.ntmps11
  go_upto_region 1 with (first | ((with_reducible refine g_bx 38 3 ?_); refine l_bx rfl M.out ?_; clear M; intro g3 w' hg3 M))
  go_wp2
  go_loopg [7, 8] (m + 1) (fun gk fv kv wr => ∃ (j : Nat) (f : Int), gk = m + 1 - j ∧ fv = .int .i64 f ∧ kv = .int .i64 ((a + j : Nat) : Int) ∧ Hid (j ≤ m ∧ 0 ≤ f ∧ f ≤ (a + m : Nat)) ∧ Hid (Own [] w wr [(g3, 38, #[.slice A1 c.ps.length k1, .slice A2 c.gs.length k2, .slice A3 c.ss.length k3, .slice A4 c.is.length k4])] [] (fun y => CRd y c A1 A2 A3 A4)))
  case atStart => exact ⟨0, (a : Int), rfl, rfl, by simp, Lib.hid (by omega), M⟩
  case round =>
    clear M
    obtain ⟨j, f, hgk, rfl, rfl, HJ, M⟩ := hrel
    have HGK := Lib.hid hgk
    obtain ⟨hjm, hf0, hfm⟩ := HJ.out
    clear hgk
    have hk0 : (0 : Int) ≤ ((a + j : Nat) : Int) := by omega
    have hkl : ((a + j : Nat) : Int) < (c.is.length : Int) := by omega
    obtain ⟨y, hy⟩ : ∃ y, c.is[a + j]? = some y := ⟨_, List.getElem?_eq_getElem (by omega)⟩
    obtain ⟨b4, o4, hA4, hc4⟩ := rdd_at insC 7 (fun _ => rfl) (fun y h => CRd.i h) M.out.now HS4.out hy
    subst hA4
    obtain ⟨op, pp, sg, kd, nn, ss, tg⟩ := y
    have HRA := Lib.hid (show ∀ y, CRd y c A1 A2 A3 (some ⟨b4, o4, none⟩) → y.rangeAt b4 (o4 + (a + j) * 7) [.int .i64 op, .int .i64 pp, .int .i64 sg, .int .i64 kd, .int .i64 nn, .string ss, .int .i64 tg] from fun y h j u hu => hc4 y h j u hu)
    clear hc4
    by_cases hjl : j < m
    · obtain ⟨y, hy2, hgo⟩ := HF.out.ins j hjl
      obtain rfl := Option.some.inj (hy.symm.trans hy2)
      clear hy hy2
      rcases hgo with ⟨rfl, hp1, hp2⟩ | ⟨rfl, hp1, hp2⟩ | rfl | ⟨rfl, ht1, ht2⟩ | ⟨rfl, ht1, ht2⟩
      · simp only at hp1 hp2
        have hq1 : ¬ pp ≤ (i : Int) := by omega
        have hq2 : ¬ (c.ps.length : Int) ≤ pp := by omega
        have o0 : (((0 : Int)) == 0) = true := by decide
        have o1 : (((0 : Int)) == 1) = false := by decide
        have o3 : (((0 : Int)) == 3) = false := by decide
        have o4 : (((0 : Int)) == 4) = false := by decide
        have o5 : (((0 : Int)) == 5) = false := by decide
        go_wp2_with (first | ((with_reducible refine g_ld 3 ?_); refine l_ld1 O_int rfl M.out (by repeat constructor) (by exact rfl) ?_) | ((with_reducible refine g_ldg 3 ?_); refine l_ld1g O_int rfl rfl M.out (by repeat constructor) (by exact rfl) ?_) | ((with_reducible refine g_ld 36 ?_); refine l_ld1 O_sIns rfl M.out (by repeat constructor) (by exact rfl) ?_) | ((with_reducible refine g_ldg 36 ?_); refine l_ld1g O_sIns rfl rfl M.out (by repeat constructor) (by exact rfl) ?_) | ((with_reducible refine g_ld 33 ?_); refine l_ld1 O_sCPath rfl M.out (by repeat constructor) (by exact rfl) ?_) | ((with_reducible refine g_ldg 33 ?_); refine l_ld1g O_sCPath rfl rfl M.out (by repeat constructor) (by exact rfl) ?_) | ((with_reducible refine g_ld 73 ?_); refine l_ldf F_Ins rfl (HRA.out _ M.out.now) rfl ?_) | ((with_reducible refine g_al 73 9 ?_); refine l_al F_Ins M.out ?_; clear M; intro g9 w' hg9 M) | ((with_reducible refine g_st 73 ?_); refine l_st F_Ins rfl rfl M.out (by repeat constructor) (by exact rfl) (by exact rfl) (by exact rfl) ?_; clear M; intro w' M))
        go_roundg (m - j)
        case measure => rw [HGK.out]; omega
        case rel => exact ⟨j + 1, f, by omega, rfl, by first | go_num | simp, Lib.hid (by omega), Lib.hid M.out.drop⟩
      · simp only at hp1 hp2
        have hq1 : ¬ pp ≤ (i : Int) := by omega
        have hq2 : ¬ (c.ps.length : Int) ≤ pp := by omega
        have o0 : (((1 : Int)) == 0) = false := by decide
        have o1 : (((1 : Int)) == 1) = true := by decide
        have o3 : (((1 : Int)) == 3) = false := by decide
        have o4 : (((1 : Int)) == 4) = false := by decide
        have o5 : (((1 : Int)) == 5) = false := by decide
        go_wp2_with (first | ((with_reducible refine g_ld 3 ?_); refine l_ld1 O_int rfl M.out (by repeat constructor) (by exact rfl) ?_) | ((with_reducible refine g_ldg 3 ?_); refine l_ld1g O_int rfl rfl M.out (by repeat constructor) (by exact rfl) ?_) | ((with_reducible refine g_ld 36 ?_); refine l_ld1 O_sIns rfl M.out (by repeat constructor) (by exact rfl) ?_) | ((with_reducible refine g_ldg 36 ?_); refine l_ld1g O_sIns rfl rfl M.out (by repeat constructor) (by exact rfl) ?_) | ((with_reducible refine g_ld 33 ?_); refine l_ld1 O_sCPath rfl M.out (by repeat constructor) (by exact rfl) ?_) | ((with_reducible refine g_ldg 33 ?_); refine l_ld1g O_sCPath rfl rfl M.out (by repeat constructor) (by exact rfl) ?_) | ((with_reducible refine g_ld 73 ?_); refine l_ldf F_Ins rfl (HRA.out _ M.out.now) rfl ?_) | ((with_reducible refine g_al 73 9 ?_); refine l_al F_Ins M.out ?_; clear M; intro g9 w' hg9 M) | ((with_reducible refine g_st 73 ?_); refine l_st F_Ins rfl rfl M.out (by repeat constructor) (by exact rfl) (by exact rfl) (by exact rfl) ?_; clear M; intro w' M))
        go_roundg (m - j)
        case measure => rw [HGK.out]; omega
        case rel => exact ⟨j + 1, f, by omega, rfl, by first | go_num | simp, Lib.hid (by omega), Lib.hid M.out.drop⟩
      ·
        have o0 : (((2 : Int)) == 0) = false := by decide
        have o1 : (((2 : Int)) == 1) = false := by decide
        have o3 : (((2 : Int)) == 3) = false := by decide
        have o4 : (((2 : Int)) == 4) = false := by decide
        have o5 : (((2 : Int)) == 5) = false := by decide
        go_wp2_with (first | ((with_reducible refine g_ld 3 ?_); refine l_ld1 O_int rfl M.out (by repeat constructor) (by exact rfl) ?_) | ((with_reducible refine g_ldg 3 ?_); refine l_ld1g O_int rfl rfl M.out (by repeat constructor) (by exact rfl) ?_) | ((with_reducible refine g_ld 36 ?_); refine l_ld1 O_sIns rfl M.out (by repeat constructor) (by exact rfl) ?_) | ((with_reducible refine g_ldg 36 ?_); refine l_ld1g O_sIns rfl rfl M.out (by repeat constructor) (by exact rfl) ?_) | ((with_reducible refine g_ld 33 ?_); refine l_ld1 O_sCPath rfl M.out (by repeat constructor) (by exact rfl) ?_) | ((with_reducible refine g_ldg 33 ?_); refine l_ld1g O_sCPath rfl rfl M.out (by repeat constructor) (by exact rfl) ?_) | ((with_reducible refine g_ld 73 ?_); refine l_ldf F_Ins rfl (HRA.out _ M.out.now) rfl ?_) | ((with_reducible refine g_al 73 9 ?_); refine l_al F_Ins M.out ?_; clear M; intro g9 w' hg9 M) | ((with_reducible refine g_st 73 ?_); refine l_st F_Ins rfl rfl M.out (by repeat constructor) (by exact rfl) (by exact rfl) (by exact rfl) ?_; clear M; intro w' M))
        go_roundg (m - j)
        case measure => rw [HGK.out]; omega
        case rel => exact ⟨j + 1, f, by omega, rfl, by first | go_num | simp, Lib.hid (by omega), Lib.hid M.out.drop⟩
      · simp only at ht1 ht2
        have hq1 : ¬ tg ≤ ((a + j : Nat) : Int) := by omega
        have o0 : (((3 : Int)) == 0) = false := by decide
        have o1 : (((3 : Int)) == 1) = false := by decide
        have o3 : (((3 : Int)) == 3) = true := by decide
        have o4 : (((3 : Int)) == 4) = false := by decide
        have o5 : (((3 : Int)) == 5) = false := by decide
        go_wp2_with (first | ((with_reducible refine g_ld 3 ?_); refine l_ld1 O_int rfl M.out (by repeat constructor) (by exact rfl) ?_) | ((with_reducible refine g_ldg 3 ?_); refine l_ld1g O_int rfl rfl M.out (by repeat constructor) (by exact rfl) ?_) | ((with_reducible refine g_ld 36 ?_); refine l_ld1 O_sIns rfl M.out (by repeat constructor) (by exact rfl) ?_) | ((with_reducible refine g_ldg 36 ?_); refine l_ld1g O_sIns rfl rfl M.out (by repeat constructor) (by exact rfl) ?_) | ((with_reducible refine g_ld 33 ?_); refine l_ld1 O_sCPath rfl M.out (by repeat constructor) (by exact rfl) ?_) | ((with_reducible refine g_ldg 33 ?_); refine l_ld1g O_sCPath rfl rfl M.out (by repeat constructor) (by exact rfl) ?_) | ((with_reducible refine g_ld 73 ?_); refine l_ldf F_Ins rfl (HRA.out _ M.out.now) rfl ?_) | ((with_reducible refine g_al 73 9 ?_); refine l_al F_Ins M.out ?_; clear M; intro g9 w' hg9 M) | ((with_reducible refine g_st 73 ?_); refine l_st F_Ins rfl rfl M.out (by repeat constructor) (by exact rfl) (by exact rfl) (by exact rfl) ?_; clear M; intro w' M))
        go_roundg (m - j)
        case measure => rw [HGK.out]; omega
        case rel => exact ⟨j + 1, max f tg, by omega, rfl, by first | go_num | simp, Lib.hid (by omega), Lib.hid M.out.drop⟩
      · simp only at ht1 ht2
        have hq1 : ¬ tg ≤ ((a + j : Nat) : Int) := by omega
        have o0 : (((4 : Int)) == 0) = false := by decide
        have o1 : (((4 : Int)) == 1) = false := by decide
        have o3 : (((4 : Int)) == 3) = false := by decide
        have o4 : (((4 : Int)) == 4) = true := by decide
        have o5 : (((4 : Int)) == 5) = false := by decide
        go_wp2_with (first | ((with_reducible refine g_ld 3 ?_); refine l_ld1 O_int rfl M.out (by repeat constructor) (by exact rfl) ?_) | ((with_reducible refine g_ldg 3 ?_); refine l_ld1g O_int rfl rfl M.out (by repeat constructor) (by exact rfl) ?_) | ((with_reducible refine g_ld 36 ?_); refine l_ld1 O_sIns rfl M.out (by repeat constructor) (by exact rfl) ?_) | ((with_reducible refine g_ldg 36 ?_); refine l_ld1g O_sIns rfl rfl M.out (by repeat constructor) (by exact rfl) ?_) | ((with_reducible refine g_ld 33 ?_); refine l_ld1 O_sCPath rfl M.out (by repeat constructor) (by exact rfl) ?_) | ((with_reducible refine g_ldg 33 ?_); refine l_ld1g O_sCPath rfl rfl M.out (by repeat constructor) (by exact rfl) ?_) | ((with_reducible refine g_ld 73 ?_); refine l_ldf F_Ins rfl (HRA.out _ M.out.now) rfl ?_) | ((with_reducible refine g_al 73 9 ?_); refine l_al F_Ins M.out ?_; clear M; intro g9 w' hg9 M) | ((with_reducible refine g_st 73 ?_); refine l_st F_Ins rfl rfl M.out (by repeat constructor) (by exact rfl) (by exact rfl) (by exact rfl) ?_; clear M; intro w' M))
        go_roundg (m - j)
        case measure => rw [HGK.out]; omega
        case rel => exact ⟨j + 1, max f tg, by omega, rfl, by first | go_num | simp, Lib.hid (by omega), Lib.hid M.out.drop⟩
    · obtain rfl : j = m := by omega
      obtain ⟨y, hy2, h5⟩ := HF.out.fin
      obtain rfl := Option.some.inj (hy.symm.trans hy2)
      simp only at h5
      subst h5
      clear hy hy2
      have o0 : (((5 : Int)) == 0) = false := by decide
      have o1 : (((5 : Int)) == 1) = false := by decide
      have o3 : (((5 : Int)) == 3) = false := by decide
      have o4 : (((5 : Int)) == 4) = false := by decide
      have o5 : (((5 : Int)) == 5) = true := by decide
      have hfl : f ≤ ((a + j : Nat) : Int) := by omega
      go_wp2_with (first | ((with_reducible refine g_ld 3 ?_); refine l_ld1 O_int rfl M.out (by repeat constructor) (by exact rfl) ?_) | ((with_reducible refine g_ldg 3 ?_); refine l_ld1g O_int rfl rfl M.out (by repeat constructor) (by exact rfl) ?_) | ((with_reducible refine g_ld 36 ?_); refine l_ld1 O_sIns rfl M.out (by repeat constructor) (by exact rfl) ?_) | ((with_reducible refine g_ldg 36 ?_); refine l_ld1g O_sIns rfl rfl M.out (by repeat constructor) (by exact rfl) ?_) | ((with_reducible refine g_ld 33 ?_); refine l_ld1 O_sCPath rfl M.out (by repeat constructor) (by exact rfl) ?_) | ((with_reducible refine g_ldg 33 ?_); refine l_ld1g O_sCPath rfl rfl M.out (by repeat constructor) (by exact rfl) ?_) | ((with_reducible refine g_ld 73 ?_); refine l_ldf F_Ins rfl (HRA.out _ M.out.now) rfl ?_) | ((with_reducible refine g_al 73 9 ?_); refine l_al F_Ins M.out ?_; clear M; intro g9 w' hg9 M) | ((with_reducible refine g_st 73 ?_); refine l_st F_Ins rfl rfl M.out (by repeat constructor) (by exact rfl) (by exact rfl) (by exact rfl) ?_; clear M; intro w' M))
      go_ret
      exact ⟨by simp; omega, M.out.bel0⟩


end Go.Proofs.YtpcbcodmocmilaaDoor
