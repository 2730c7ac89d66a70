/- law19: awake; ref19.Same of one code (printed by gen_ja.py). -/
import Derived.Test.YtpcbcodmocmilaaGreatDoorRG47
import Derived.Test.YtpcbcodmocmilaaGreatDoorRG31
namespace Go.Proofs.YtpcbcodmocmilaaGreatDoor
open Go.RowKit

theorem rdd_atS {α : Type} (f : α → List Value) (k : Nat) (hk : ∀ x, (f x).length = k) (J : World → Prop) {w : World} {A : Option Addr} {l : List α} {i : Nat} {x : α} (hJ : ∀ y, J y → Rdd y k A l.length (l.flatMap f)) (h : J w) (hs : ∀ a, A = some a → a.spot = none) (hx : l[i]? = some x) :
    ∃ b off, A = some ⟨b, off, none⟩ ∧ ∀ y, J y → ∀ j u, (f x)[j]? = some u → y.cell? ⟨b, off + i * k + j, none⟩ = some u := by
  have hpos : 0 < l.length := by have := (List.getElem?_eq_some_iff.1 hx).1; omega
  obtain ⟨⟨b, off, sp⟩, e, _⟩ := (hJ w h).2 hpos
  obtain rfl : sp = none := hs _ e
  refine ⟨b, off, e, fun y hy j u hu => ?_⟩
  obtain ⟨ad, e', _, hc⟩ := (hJ y hy).2 hpos
  rw [e] at e'
  cases e'
  have hj : j < k := by rw [← hk x]; exact (List.getElem?_eq_some_iff.1 hu).1
  have := hc (i * k + j) u (by rw [flat_get f k hk _ i j hj, hx]; exact hu)
  rw [add_lit, ← Nat.add_assoc] at this
  exact this
theorem l_ldcgS {P : Program} {ops : Array Oper} {dst : Option Tmp} {tt : TypeId} {pos : String} {af : Array Edge} {a : Act} {w : World} {Q : Exit → Act → World → Prop} {rest : List Oper} {T : TypeId} (F : OneF P T) {gd : Nat × Bool} {x : Operand} {b o : Nat} {v : Value} (hw : Region.wanted ⟨dst, .load T x, tt, pos, af, some gd⟩ (yielded ops a.tmps) = true) (hx : a.eval x = .pointer (some ⟨b, o, none⟩)) (hc : w.cell? ⟨b, o, none⟩ = some v)
    (h : wpList P ops Q rest (a.put dst v) w) : wpList P ops Q (⟨dst, .load T x, tt, pos, af, some gd⟩ :: rest) a w :=
  wpList_step fun _ hK => by rw [if_pos hw]; exact o_ld1 F hx hc (hK _ _ h)
theorem aw_parse19 : parseT true (⟨#[36]⟩ : ByteArray).data.toList = .ok ⟨true, []⟩ := by kernel_rfl
theorem aw_code19 : codeT ⟨true, []⟩ = ⟨[⟨true, 0, 0⟩], [], [], []⟩ := by kernel_rfl

set_option maxRecDepth 100000 in
set_option maxHeartbeats 2000000 in
theorem awake19 (w : World) : Calls Tryz.prog 10 #[] w fun e w' => e = .returned (.bool true) ∧ Bel w.heap.size w w' := by
  have M := Lib.hid (Own.start [] w (fun _ => True) fun _ _ => trivial)
  have hQ := fun w => query_any ⟨#[36]⟩ w (by decide)
  unfold CQueryP at hQ
  rw [aw_parse19] at hQ
  simp only [aw_code19] at hQ
  have HP := Lib.hid hQ
  clear hQ
  go_enter Tryz.func10, Tryz.ntmps10
  go_upto_region 2 with (first | ((with_reducible refine g_al 28 1 ?_); refine l_al F_Code M.out ?_; clear M; intro g1 w' hg1 M) | ((with_reducible refine g_al 31 2 ?_); refine l_al F_Flt M.out ?_; clear M; intro g2 w' hg2 M) | ((with_reducible refine g_st 28 ?_); refine l_st F_Code rfl rfl M.out (by repeat constructor) (by exact rfl) (by exact rfl) (by exact rfl) ?_; clear M; intro w' M) | ((with_reducible refine g_st 31 ?_); refine l_st F_Flt rfl rfl M.out (by repeat constructor) (by exact rfl) (by exact rfl) (by exact rfl) ?_; clear M; intro w' M) | (go_at_call 11; (with_reducible refine (HP.out _).mono ?_); rintro e w' ⟨A1, A2, A3, A4, k1, k2, k3, k4, rfl, hcr, ⟨f1, f2, f3, f4⟩, hq, hb⟩; have HF := Lib.hid (show FrA w A1 ∧ FrA w A2 ∧ FrA w A3 ∧ FrA w A4 from ⟨f1.le M.out.size, f2.le M.out.size, f3.le M.out.size, f4.le M.out.size⟩); have Mn := M.out.addC hb hcr f1 f2 f3 f4; have HQQ := Lib.hid hq; replace M := Lib.hid Mn; clear Mn hb hcr f1 f2 f3 f4 hq))
  obtain ⟨b1, o1, hA1, hc1⟩ := rdd_atS pathC 3 (fun _ => rfl) _ (fun y h => CRd.p (And.right h)) M.out.now (fun a e => (HF.out.1 a e).2) (i := 0) rfl
  subst hA1
  have HZ := Lib.hid (hc1 _ M.out.now 0 _ rfl)
  clear hc1
  go_wp2_with (first | ((with_reducible refine g_ld 29 ?_); refine l_ld1 O_ern rfl M.out (by repeat constructor) (by exact rfl) ?_) | ((with_reducible refine g_ld 23 ?_); refine l_ld1 O_sCPath rfl M.out (by repeat constructor) (by exact rfl) ?_) | ((with_reducible refine q_gl 23 ?_); refine q_ld1g O_sCPath rfl rfl M.out (by repeat constructor) (by exact rfl) ?_) | ((with_reducible refine q_gl 4 ?_); refine l_ldcgS O_bool rfl rfl HZ.out ?_))
  go_ret
  exact ⟨by simp, M.out.bel0⟩
theorem queryc_err {s : ByteArray} {x a : Int} (w : World) (hs : s.size ≤ 1000000) (h : parseT true s.data.toList = .error (x, a)) : Calls Tryz.prog 11 #[.string s] w fun e w' => e = .returned (.tuple #[.agg #[.slice none 0 0, .slice none 0 0, .slice none 0 0, .slice none 0 0], .agg #[.int .i64 x, .int .i64 a]]) ∧ Bel w.heap.size w w' := by
  have hP := fun w => parse_any s w hs
  unfold ParseP at hP
  rw [h] at hP
  exact query_errP s w x a (bne_iff_ne.2 (err_ne h)) hP
theorem queryc_ok {s : ByteArray} {p : PathT} (w : World) (hs : s.size ≤ 1000000) (h : parseT true s.data.toList = .ok p) (hwt : wtP (wtN 200) p ≤ 4000) : Calls Tryz.prog 11 #[.string s] w fun e w' => ∃ (A1 A2 A3 A4 : Option Addr) (k1 k2 k3 k4 : Nat), e = .returned (.tuple #[.agg #[.slice A1 (codeT p).ps.length k1, .slice A2 (codeT p).gs.length k2, .slice A3 (codeT p).ss.length k3, .slice A4 (codeT p).is.length k4], .agg #[.int .i64 0, .int .i64 0]]) ∧ CRd w' (codeT p) A1 A2 A3 A4 ∧ (FrA w A1 ∧ FrA w A2 ∧ FrA w A3 ∧ FrA w A4) ∧ ((codeT p).gs.length ≤ k2 ∧ (codeT p).ss.length ≤ k3) ∧ Bel w.heap.size w w' := by
  have hP := fun w => parse_any s w hs
  unfold ParseP at hP
  rw [h] at hP
  exact query_okP s w p (parse_wf h).1 hwt hP

set_option maxRecDepth 100000 in
set_option maxHeartbeats 2000000 in
theorem rsame19_one (c : CodeD) (A1 A2 A3 A4 B1 B2 B3 B4 : Option Addr) (k1 k2 k3 k4 r1 r2 r3 r4 : Nat) (w : World) (hA : CRd w c A1 A2 A3 A4) (hB : CRd w c B1 B2 B3 B4) (hsA : (∀ a, A1 = some a → a.spot = none) ∧ (∀ a, A2 = some a → a.spot = none) ∧ (∀ a, A3 = some a → a.spot = none) ∧ (∀ a, A4 = some a → a.spot = none)) (hsB : (∀ a, B1 = some a → a.spot = none) ∧ (∀ a, B2 = some a → a.spot = none) ∧ (∀ a, B3 = some a → a.spot = none) ∧ (∀ a, B4 = some a → a.spot = none)) (hz : c.ps.length + c.gs.length + c.ss.length + c.is.length ≤ 9000000000) :
    Calls Tryz.prog 13 #[.agg #[.slice A1 c.ps.length k1, .slice A2 c.gs.length k2, .slice A3 c.ss.length k3, .slice A4 c.is.length k4], .agg #[.slice B1 c.ps.length r1, .slice B2 c.gs.length r2, .slice B3 c.ss.length r3, .slice B4 c.is.length r4]] w fun e w' => e = .returned (.bool true) ∧ Bel w.heap.size w w' := by
  have M := Lib.hid (Own.start [] w (fun y => CRd y c A1 A2 A3 A4 ∧ CRd y c B1 B2 B3 B4) fun y hy => ⟨⟨hA.p.old hy, hA.g.old hy, hA.s.old hy, hA.i.old hy⟩, ⟨hB.p.old hy, hB.g.old hy, hB.s.old hy, hB.i.old hy⟩⟩)
  have HZ := Lib.hid hz
  have HSA := Lib.hid hsA
  have HSB := Lib.hid hsB
  clear hA hB hz hsA hsB
  go_enter Tryz.func13, Tryz.ntmps13
  go_wp2_with (first | ((with_reducible refine g_bx 28 2 ?_); refine l_bx rfl M.out ?_; clear M; intro g2 w' hg2 M) | ((with_reducible refine g_bx 28 3 ?_); refine l_bx rfl M.out ?_; clear M; intro g3 w' hg3 M) | ((with_reducible refine g_ld 23 ?_); refine l_ld1 O_sCPath rfl M.out (by repeat constructor) (by exact rfl) ?_) | ((with_reducible refine g_ld 24 ?_); refine l_ld1 O_sCSeg rfl M.out (by repeat constructor) (by exact rfl) ?_) | ((with_reducible refine g_ld 25 ?_); refine l_ld1 O_sCSel rfl M.out (by repeat constructor) (by exact rfl) ?_) | ((with_reducible refine g_ld 26 ?_); refine l_ld1 O_sIns rfl M.out (by repeat constructor) (by exact rfl) ?_) | ((with_reducible refine q_gl 23 ?_); refine q_ld1g O_sCPath rfl rfl M.out (by repeat constructor) (by exact rfl) ?_) | ((with_reducible refine q_gl 24 ?_); refine q_ld1g O_sCSeg rfl rfl M.out (by repeat constructor) (by exact rfl) ?_) | ((with_reducible refine q_gl 25 ?_); refine q_ld1g O_sCSel rfl rfl M.out (by repeat constructor) (by exact rfl) ?_) | ((with_reducible refine q_gl 26 ?_); refine q_ld1g O_sIns rfl rfl M.out (by repeat constructor) (by exact rfl) ?_))
  go_loopg [5] c.ps.length (fun gk ii wr => ∃ i : Nat, i ≤ c.ps.length ∧ gk = c.ps.length - i ∧ ii = .int .i64 i ∧ Hid (Own [] w wr [(g3, 28, #[.slice B1 c.ps.length r1, .slice B2 c.gs.length r2, .slice B3 c.ss.length r3, .slice B4 c.is.length r4]), (g2, 28, #[.slice A1 c.ps.length k1, .slice A2 c.gs.length k2, .slice A3 c.ss.length k3, .slice A4 c.is.length k4])] [] (fun y => CRd y c A1 A2 A3 A4 ∧ CRd y c B1 B2 B3 B4)))
  case atStart => exact ⟨0, Nat.zero_le _, rfl, rfl, M⟩
  case round =>
    clear M
    obtain ⟨i, hi, hgk, rfl, M⟩ := hrel
    have HGK := Lib.hid hgk
    clear hgk
    have hz := HZ.out
    by_cases hlt : i < c.ps.length
    · obtain ⟨x, hx⟩ : ∃ x, c.ps[i]? = some x := ⟨_, List.getElem?_eq_getElem hlt⟩
      obtain ⟨b1, o1, e1, hc1⟩ := rdd_atS pathC 3 (fun _ => rfl) (fun y => CRd y c A1 A2 A3 A4 ∧ CRd y c B1 B2 B3 B4) (fun y h => CRd.p (And.left h)) M.out.now HSA.out.1 hx
      obtain ⟨b2, o2, e2, hc2⟩ := rdd_atS pathC 3 (fun _ => rfl) (fun y => CRd y c A1 A2 A3 A4 ∧ CRd y c B1 B2 B3 B4) (fun y h => CRd.p (And.right h)) M.out.now HSB.out.1 hx
      subst e1 e2
      obtain ⟨e0, e1, e2⟩ := x
      have HC1 := Lib.hid hc1
      have HC2 := Lib.hid hc2
      clear hc1 hc2 hx
      have hlti : (i : Int) < (c.ps.length : Int) := by omega
      go_upto_region 6 with (first | ((with_reducible refine g_ld 23 ?_); refine l_ld1 O_sCPath rfl M.out (by repeat constructor) (by exact rfl) ?_))
      replace M := Lib.hid M.out.drew
      refine tb (fun y => ((CRd y c (some ⟨b1, o1, none⟩) A2 A3 A4 ∧ CRd y c (some ⟨b2, o2, none⟩) B2 B3 B4) ∧ Blk y g3 28 #[.slice (some ⟨b2, o2, none⟩) c.ps.length r1, .slice B2 c.gs.length r2, .slice B3 c.ss.length r3, .slice B4 c.is.length r4]) ∧ Blk y g2 28 #[.slice (some ⟨b1, o1, none⟩) c.ps.length k1, .slice A2 c.gs.length k2, .slice A3 c.ss.length k3, .slice A4 c.is.length k4]) ⟨⟨M.out.now, M.out.blk (g3, 28, #[.slice (some ⟨b2, o2, none⟩) c.ps.length r1, .slice B2 c.gs.length r2, .slice B3 c.ss.length r3, .slice B4 c.is.length r4]) (by repeat constructor)⟩, M.out.blk (g2, 28, #[.slice (some ⟨b1, o1, none⟩) c.ps.length k1, .slice A2 c.gs.length k2, .slice A3 c.ss.length k3, .slice A4 c.is.length k4]) (by repeat constructor)⟩ ?_
      refine tkp 0 rfl ⟨⟨M.out.now, M.out.blk (g3, 28, #[.slice (some ⟨b2, o2, none⟩) c.ps.length r1, .slice B2 c.gs.length r2, .slice B3 c.ss.length r3, .slice B4 c.is.length r4]) (by repeat constructor)⟩, M.out.blk (g2, 28, #[.slice (some ⟨b1, o1, none⟩) c.ps.length k1, .slice A2 c.gs.length k2, .slice A3 c.ss.length k3, .slice A4 c.is.length k4]) (by repeat constructor)⟩ ?_
      refine tk 1 rfl ⟨⟨M.out.now, M.out.blk (g3, 28, #[.slice (some ⟨b2, o2, none⟩) c.ps.length r1, .slice B2 c.gs.length r2, .slice B3 c.ss.length r3, .slice B4 c.is.length r4]) (by repeat constructor)⟩, M.out.blk (g2, 28, #[.slice (some ⟨b1, o1, none⟩) c.ps.length k1, .slice A2 c.gs.length k2, .slice A3 c.ss.length k3, .slice A4 c.is.length k4]) (by repeat constructor)⟩ (y_ld1 O_sCPath _ g2 0 rfl _ _ (fun y h => h.2) _ rfl) ?_
      refine tkp 2 rfl ⟨⟨M.out.now, M.out.blk (g3, 28, #[.slice (some ⟨b2, o2, none⟩) c.ps.length r1, .slice B2 c.gs.length r2, .slice B3 c.ss.length r3, .slice B4 c.is.length r4]) (by repeat constructor)⟩, M.out.blk (g2, 28, #[.slice (some ⟨b1, o1, none⟩) c.ps.length k1, .slice A2 c.gs.length k2, .slice A3 c.ss.length k3, .slice A4 c.is.length k4]) (by repeat constructor)⟩ ?_
      refine tkp 3 rfl ⟨⟨M.out.now, M.out.blk (g3, 28, #[.slice (some ⟨b2, o2, none⟩) c.ps.length r1, .slice B2 c.gs.length r2, .slice B3 c.ss.length r3, .slice B4 c.is.length r4]) (by repeat constructor)⟩, M.out.blk (g2, 28, #[.slice (some ⟨b1, o1, none⟩) c.ps.length k1, .slice A2 c.gs.length k2, .slice A3 c.ss.length k3, .slice A4 c.is.length k4]) (by repeat constructor)⟩ ?_
      refine tk 4 rfl ⟨⟨M.out.now, M.out.blk (g3, 28, #[.slice (some ⟨b2, o2, none⟩) c.ps.length r1, .slice B2 c.gs.length r2, .slice B3 c.ss.length r3, .slice B4 c.is.length r4]) (by repeat constructor)⟩, M.out.blk (g2, 28, #[.slice (some ⟨b1, o1, none⟩) c.ps.length k1, .slice A2 c.gs.length k2, .slice A3 c.ss.length k3, .slice A4 c.is.length k4]) (by repeat constructor)⟩ (y_ldf F_CPath _ b1 (o1 + i * 3) rfl [.bool e0, .int .i64 e1, .int .i64 e2] (fun y h => HC1.out y h.1.1) rfl) ?_
      refine tkp 5 rfl ⟨⟨M.out.now, M.out.blk (g3, 28, #[.slice (some ⟨b2, o2, none⟩) c.ps.length r1, .slice B2 c.gs.length r2, .slice B3 c.ss.length r3, .slice B4 c.is.length r4]) (by repeat constructor)⟩, M.out.blk (g2, 28, #[.slice (some ⟨b1, o1, none⟩) c.ps.length k1, .slice A2 c.gs.length k2, .slice A3 c.ss.length k3, .slice A4 c.is.length k4]) (by repeat constructor)⟩ ?_
      refine tk 6 rfl ⟨⟨M.out.now, M.out.blk (g3, 28, #[.slice (some ⟨b2, o2, none⟩) c.ps.length r1, .slice B2 c.gs.length r2, .slice B3 c.ss.length r3, .slice B4 c.is.length r4]) (by repeat constructor)⟩, M.out.blk (g2, 28, #[.slice (some ⟨b1, o1, none⟩) c.ps.length k1, .slice A2 c.gs.length k2, .slice A3 c.ss.length k3, .slice A4 c.is.length k4]) (by repeat constructor)⟩ (y_ld1 O_sCPath _ g3 0 rfl _ _ (fun y h => h.1.2) _ rfl) ?_
      refine tkp 7 rfl ⟨⟨M.out.now, M.out.blk (g3, 28, #[.slice (some ⟨b2, o2, none⟩) c.ps.length r1, .slice B2 c.gs.length r2, .slice B3 c.ss.length r3, .slice B4 c.is.length r4]) (by repeat constructor)⟩, M.out.blk (g2, 28, #[.slice (some ⟨b1, o1, none⟩) c.ps.length k1, .slice A2 c.gs.length k2, .slice A3 c.ss.length k3, .slice A4 c.is.length k4]) (by repeat constructor)⟩ ?_
      refine tkp 8 rfl ⟨⟨M.out.now, M.out.blk (g3, 28, #[.slice (some ⟨b2, o2, none⟩) c.ps.length r1, .slice B2 c.gs.length r2, .slice B3 c.ss.length r3, .slice B4 c.is.length r4]) (by repeat constructor)⟩, M.out.blk (g2, 28, #[.slice (some ⟨b1, o1, none⟩) c.ps.length k1, .slice A2 c.gs.length k2, .slice A3 c.ss.length k3, .slice A4 c.is.length k4]) (by repeat constructor)⟩ ?_
      refine tk 9 rfl ⟨⟨M.out.now, M.out.blk (g3, 28, #[.slice (some ⟨b2, o2, none⟩) c.ps.length r1, .slice B2 c.gs.length r2, .slice B3 c.ss.length r3, .slice B4 c.is.length r4]) (by repeat constructor)⟩, M.out.blk (g2, 28, #[.slice (some ⟨b1, o1, none⟩) c.ps.length k1, .slice A2 c.gs.length k2, .slice A3 c.ss.length k3, .slice A4 c.is.length k4]) (by repeat constructor)⟩ (y_ldf F_CPath _ b2 (o2 + i * 3) rfl [.bool e0, .int .i64 e1, .int .i64 e2] (fun y h => HC2.out y h.1.1) rfl) ?_
      refine tkp 10 rfl ⟨⟨M.out.now, M.out.blk (g3, 28, #[.slice (some ⟨b2, o2, none⟩) c.ps.length r1, .slice B2 c.gs.length r2, .slice B3 c.ss.length r3, .slice B4 c.is.length r4]) (by repeat constructor)⟩, M.out.blk (g2, 28, #[.slice (some ⟨b1, o1, none⟩) c.ps.length k1, .slice A2 c.gs.length k2, .slice A3 c.ss.length k3, .slice A4 c.is.length k4]) (by repeat constructor)⟩ ?_ (v := .bool false) (hv := by intro w hS; go_simp)
      refine te ?_
      go_wp2
      go_roundg (c.ps.length - (i + 1))
      case measure => rw [HGK.out]; omega
      case rel => exact ⟨i + 1, by omega, rfl, by go_num, M⟩
    obtain rfl : i = c.ps.length := by omega
    go_wp2_with (first | ((with_reducible refine g_ld 23 ?_); refine l_ld1 O_sCPath rfl M.out (by repeat constructor) (by exact rfl) ?_) | ((with_reducible refine g_ld 24 ?_); refine l_ld1 O_sCSeg rfl M.out (by repeat constructor) (by exact rfl) ?_))
    go_loopg [6] c.gs.length (fun gk ii wr => ∃ i : Nat, i ≤ c.gs.length ∧ gk = c.gs.length - i ∧ ii = .int .i64 i ∧ Hid (Own [] w wr [(g3, 28, #[.slice B1 c.ps.length r1, .slice B2 c.gs.length r2, .slice B3 c.ss.length r3, .slice B4 c.is.length r4]), (g2, 28, #[.slice A1 c.ps.length k1, .slice A2 c.gs.length k2, .slice A3 c.ss.length k3, .slice A4 c.is.length k4])] [] (fun y => CRd y c A1 A2 A3 A4 ∧ CRd y c B1 B2 B3 B4)))
    case atStart => exact ⟨0, Nat.zero_le _, rfl, rfl, M⟩
    case round =>
      clear M
      obtain ⟨i, hi, hgk, rfl, M⟩ := hrel
      have HGK := Lib.hid hgk
      clear hgk
      have hz := HZ.out
      by_cases hlt : i < c.gs.length
      · obtain ⟨x, hx⟩ : ∃ x, c.gs[i]? = some x := ⟨_, List.getElem?_eq_getElem hlt⟩
        obtain ⟨b1, o1, e1, hc1⟩ := rdd_atS segC 3 (fun _ => rfl) (fun y => CRd y c A1 A2 A3 A4 ∧ CRd y c B1 B2 B3 B4) (fun y h => CRd.g (And.left h)) M.out.now HSA.out.2.1 hx
        obtain ⟨b2, o2, e2, hc2⟩ := rdd_atS segC 3 (fun _ => rfl) (fun y => CRd y c A1 A2 A3 A4 ∧ CRd y c B1 B2 B3 B4) (fun y h => CRd.g (And.right h)) M.out.now HSB.out.2.1 hx
        subst e1 e2
        obtain ⟨e0, e1, e2⟩ := x
        have HC1 := Lib.hid hc1
        have HC2 := Lib.hid hc2
        clear hc1 hc2 hx
        have hlti : (i : Int) < (c.gs.length : Int) := by omega
        go_upto_region 11 with (first | ((with_reducible refine g_ld 24 ?_); refine l_ld1 O_sCSeg rfl M.out (by repeat constructor) (by exact rfl) ?_))
        replace M := Lib.hid M.out.drew
        refine tb (fun y => ((CRd y c A1 (some ⟨b1, o1, none⟩) A3 A4 ∧ CRd y c B1 (some ⟨b2, o2, none⟩) B3 B4) ∧ Blk y g3 28 #[.slice B1 c.ps.length r1, .slice (some ⟨b2, o2, none⟩) c.gs.length r2, .slice B3 c.ss.length r3, .slice B4 c.is.length r4]) ∧ Blk y g2 28 #[.slice A1 c.ps.length k1, .slice (some ⟨b1, o1, none⟩) c.gs.length k2, .slice A3 c.ss.length k3, .slice A4 c.is.length k4]) ⟨⟨M.out.now, M.out.blk (g3, 28, #[.slice B1 c.ps.length r1, .slice (some ⟨b2, o2, none⟩) c.gs.length r2, .slice B3 c.ss.length r3, .slice B4 c.is.length r4]) (by repeat constructor)⟩, M.out.blk (g2, 28, #[.slice A1 c.ps.length k1, .slice (some ⟨b1, o1, none⟩) c.gs.length k2, .slice A3 c.ss.length k3, .slice A4 c.is.length k4]) (by repeat constructor)⟩ ?_
        refine tkp 0 rfl ⟨⟨M.out.now, M.out.blk (g3, 28, #[.slice B1 c.ps.length r1, .slice (some ⟨b2, o2, none⟩) c.gs.length r2, .slice B3 c.ss.length r3, .slice B4 c.is.length r4]) (by repeat constructor)⟩, M.out.blk (g2, 28, #[.slice A1 c.ps.length k1, .slice (some ⟨b1, o1, none⟩) c.gs.length k2, .slice A3 c.ss.length k3, .slice A4 c.is.length k4]) (by repeat constructor)⟩ ?_
        refine tk 1 rfl ⟨⟨M.out.now, M.out.blk (g3, 28, #[.slice B1 c.ps.length r1, .slice (some ⟨b2, o2, none⟩) c.gs.length r2, .slice B3 c.ss.length r3, .slice B4 c.is.length r4]) (by repeat constructor)⟩, M.out.blk (g2, 28, #[.slice A1 c.ps.length k1, .slice (some ⟨b1, o1, none⟩) c.gs.length k2, .slice A3 c.ss.length k3, .slice A4 c.is.length k4]) (by repeat constructor)⟩ (y_ld1 O_sCSeg _ g2 1 rfl _ _ (fun y h => h.2) _ rfl) ?_
        refine tkp 2 rfl ⟨⟨M.out.now, M.out.blk (g3, 28, #[.slice B1 c.ps.length r1, .slice (some ⟨b2, o2, none⟩) c.gs.length r2, .slice B3 c.ss.length r3, .slice B4 c.is.length r4]) (by repeat constructor)⟩, M.out.blk (g2, 28, #[.slice A1 c.ps.length k1, .slice (some ⟨b1, o1, none⟩) c.gs.length k2, .slice A3 c.ss.length k3, .slice A4 c.is.length k4]) (by repeat constructor)⟩ ?_
        refine tkp 3 rfl ⟨⟨M.out.now, M.out.blk (g3, 28, #[.slice B1 c.ps.length r1, .slice (some ⟨b2, o2, none⟩) c.gs.length r2, .slice B3 c.ss.length r3, .slice B4 c.is.length r4]) (by repeat constructor)⟩, M.out.blk (g2, 28, #[.slice A1 c.ps.length k1, .slice (some ⟨b1, o1, none⟩) c.gs.length k2, .slice A3 c.ss.length k3, .slice A4 c.is.length k4]) (by repeat constructor)⟩ ?_
        refine tk 4 rfl ⟨⟨M.out.now, M.out.blk (g3, 28, #[.slice B1 c.ps.length r1, .slice (some ⟨b2, o2, none⟩) c.gs.length r2, .slice B3 c.ss.length r3, .slice B4 c.is.length r4]) (by repeat constructor)⟩, M.out.blk (g2, 28, #[.slice A1 c.ps.length k1, .slice (some ⟨b1, o1, none⟩) c.gs.length k2, .slice A3 c.ss.length k3, .slice A4 c.is.length k4]) (by repeat constructor)⟩ (y_ldf F_CSeg _ b1 (o1 + i * 3) rfl [.bool e0, .int .i64 e1, .int .i64 e2] (fun y h => HC1.out y h.1.1) rfl) ?_
        refine tkp 5 rfl ⟨⟨M.out.now, M.out.blk (g3, 28, #[.slice B1 c.ps.length r1, .slice (some ⟨b2, o2, none⟩) c.gs.length r2, .slice B3 c.ss.length r3, .slice B4 c.is.length r4]) (by repeat constructor)⟩, M.out.blk (g2, 28, #[.slice A1 c.ps.length k1, .slice (some ⟨b1, o1, none⟩) c.gs.length k2, .slice A3 c.ss.length k3, .slice A4 c.is.length k4]) (by repeat constructor)⟩ ?_
        refine tk 6 rfl ⟨⟨M.out.now, M.out.blk (g3, 28, #[.slice B1 c.ps.length r1, .slice (some ⟨b2, o2, none⟩) c.gs.length r2, .slice B3 c.ss.length r3, .slice B4 c.is.length r4]) (by repeat constructor)⟩, M.out.blk (g2, 28, #[.slice A1 c.ps.length k1, .slice (some ⟨b1, o1, none⟩) c.gs.length k2, .slice A3 c.ss.length k3, .slice A4 c.is.length k4]) (by repeat constructor)⟩ (y_ld1 O_sCSeg _ g3 1 rfl _ _ (fun y h => h.1.2) _ rfl) ?_
        refine tkp 7 rfl ⟨⟨M.out.now, M.out.blk (g3, 28, #[.slice B1 c.ps.length r1, .slice (some ⟨b2, o2, none⟩) c.gs.length r2, .slice B3 c.ss.length r3, .slice B4 c.is.length r4]) (by repeat constructor)⟩, M.out.blk (g2, 28, #[.slice A1 c.ps.length k1, .slice (some ⟨b1, o1, none⟩) c.gs.length k2, .slice A3 c.ss.length k3, .slice A4 c.is.length k4]) (by repeat constructor)⟩ ?_
        refine tkp 8 rfl ⟨⟨M.out.now, M.out.blk (g3, 28, #[.slice B1 c.ps.length r1, .slice (some ⟨b2, o2, none⟩) c.gs.length r2, .slice B3 c.ss.length r3, .slice B4 c.is.length r4]) (by repeat constructor)⟩, M.out.blk (g2, 28, #[.slice A1 c.ps.length k1, .slice (some ⟨b1, o1, none⟩) c.gs.length k2, .slice A3 c.ss.length k3, .slice A4 c.is.length k4]) (by repeat constructor)⟩ ?_
        refine tk 9 rfl ⟨⟨M.out.now, M.out.blk (g3, 28, #[.slice B1 c.ps.length r1, .slice (some ⟨b2, o2, none⟩) c.gs.length r2, .slice B3 c.ss.length r3, .slice B4 c.is.length r4]) (by repeat constructor)⟩, M.out.blk (g2, 28, #[.slice A1 c.ps.length k1, .slice (some ⟨b1, o1, none⟩) c.gs.length k2, .slice A3 c.ss.length k3, .slice A4 c.is.length k4]) (by repeat constructor)⟩ (y_ldf F_CSeg _ b2 (o2 + i * 3) rfl [.bool e0, .int .i64 e1, .int .i64 e2] (fun y h => HC2.out y h.1.1) rfl) ?_
        refine tkp 10 rfl ⟨⟨M.out.now, M.out.blk (g3, 28, #[.slice B1 c.ps.length r1, .slice (some ⟨b2, o2, none⟩) c.gs.length r2, .slice B3 c.ss.length r3, .slice B4 c.is.length r4]) (by repeat constructor)⟩, M.out.blk (g2, 28, #[.slice A1 c.ps.length k1, .slice (some ⟨b1, o1, none⟩) c.gs.length k2, .slice A3 c.ss.length k3, .slice A4 c.is.length k4]) (by repeat constructor)⟩ ?_ (v := .bool false) (hv := by intro w hS; go_simp)
        refine te ?_
        go_wp2
        go_roundg (c.gs.length - (i + 1))
        case measure => rw [HGK.out]; omega
        case rel => exact ⟨i + 1, by omega, rfl, by go_num, M⟩
      obtain rfl : i = c.gs.length := by omega
      go_wp2_with (first | ((with_reducible refine g_ld 24 ?_); refine l_ld1 O_sCSeg rfl M.out (by repeat constructor) (by exact rfl) ?_) | ((with_reducible refine g_ld 25 ?_); refine l_ld1 O_sCSel rfl M.out (by repeat constructor) (by exact rfl) ?_))
      go_loopg [7] c.ss.length (fun gk ii wr => ∃ i : Nat, i ≤ c.ss.length ∧ gk = c.ss.length - i ∧ ii = .int .i64 i ∧ Hid (Own [] w wr [(g3, 28, #[.slice B1 c.ps.length r1, .slice B2 c.gs.length r2, .slice B3 c.ss.length r3, .slice B4 c.is.length r4]), (g2, 28, #[.slice A1 c.ps.length k1, .slice A2 c.gs.length k2, .slice A3 c.ss.length k3, .slice A4 c.is.length k4])] [] (fun y => CRd y c A1 A2 A3 A4 ∧ CRd y c B1 B2 B3 B4)))
      case atStart => exact ⟨0, Nat.zero_le _, rfl, rfl, M⟩
      case round =>
        clear M
        obtain ⟨i, hi, hgk, rfl, M⟩ := hrel
        have HGK := Lib.hid hgk
        clear hgk
        have hz := HZ.out
        by_cases hlt : i < c.ss.length
        · obtain ⟨x, hx⟩ : ∃ x, c.ss[i]? = some x := ⟨_, List.getElem?_eq_getElem hlt⟩
          obtain ⟨b1, o1, e1, hc1⟩ := rdd_atS selC 8 (fun _ => rfl) (fun y => CRd y c A1 A2 A3 A4 ∧ CRd y c B1 B2 B3 B4) (fun y h => CRd.s (And.left h)) M.out.now HSA.out.2.2.1 hx
          obtain ⟨b2, o2, e2, hc2⟩ := rdd_atS selC 8 (fun _ => rfl) (fun y => CRd y c A1 A2 A3 A4 ∧ CRd y c B1 B2 B3 B4) (fun y h => CRd.s (And.right h)) M.out.now HSB.out.2.2.1 hx
          subst e1 e2
          obtain ⟨e0, e1, e2, e3, e4, e5, e6, e7⟩ := x
          have HC1 := Lib.hid hc1
          have HC2 := Lib.hid hc2
          clear hc1 hc2 hx
          have hlti : (i : Int) < (c.ss.length : Int) := by omega
          go_upto_region 16 with (first | ((with_reducible refine g_ld 25 ?_); refine l_ld1 O_sCSel rfl M.out (by repeat constructor) (by exact rfl) ?_))
          replace M := Lib.hid M.out.drew
          refine tb (fun y => ((CRd y c A1 A2 (some ⟨b1, o1, none⟩) A4 ∧ CRd y c B1 B2 (some ⟨b2, o2, none⟩) B4) ∧ Blk y g3 28 #[.slice B1 c.ps.length r1, .slice B2 c.gs.length r2, .slice (some ⟨b2, o2, none⟩) c.ss.length r3, .slice B4 c.is.length r4]) ∧ Blk y g2 28 #[.slice A1 c.ps.length k1, .slice A2 c.gs.length k2, .slice (some ⟨b1, o1, none⟩) c.ss.length k3, .slice A4 c.is.length k4]) ⟨⟨M.out.now, M.out.blk (g3, 28, #[.slice B1 c.ps.length r1, .slice B2 c.gs.length r2, .slice (some ⟨b2, o2, none⟩) c.ss.length r3, .slice B4 c.is.length r4]) (by repeat constructor)⟩, M.out.blk (g2, 28, #[.slice A1 c.ps.length k1, .slice A2 c.gs.length k2, .slice (some ⟨b1, o1, none⟩) c.ss.length k3, .slice A4 c.is.length k4]) (by repeat constructor)⟩ ?_
          refine tkp 0 rfl ⟨⟨M.out.now, M.out.blk (g3, 28, #[.slice B1 c.ps.length r1, .slice B2 c.gs.length r2, .slice (some ⟨b2, o2, none⟩) c.ss.length r3, .slice B4 c.is.length r4]) (by repeat constructor)⟩, M.out.blk (g2, 28, #[.slice A1 c.ps.length k1, .slice A2 c.gs.length k2, .slice (some ⟨b1, o1, none⟩) c.ss.length k3, .slice A4 c.is.length k4]) (by repeat constructor)⟩ ?_
          refine tk 1 rfl ⟨⟨M.out.now, M.out.blk (g3, 28, #[.slice B1 c.ps.length r1, .slice B2 c.gs.length r2, .slice (some ⟨b2, o2, none⟩) c.ss.length r3, .slice B4 c.is.length r4]) (by repeat constructor)⟩, M.out.blk (g2, 28, #[.slice A1 c.ps.length k1, .slice A2 c.gs.length k2, .slice (some ⟨b1, o1, none⟩) c.ss.length k3, .slice A4 c.is.length k4]) (by repeat constructor)⟩ (y_ld1 O_sCSel _ g2 2 rfl _ _ (fun y h => h.2) _ rfl) ?_
          refine tkp 2 rfl ⟨⟨M.out.now, M.out.blk (g3, 28, #[.slice B1 c.ps.length r1, .slice B2 c.gs.length r2, .slice (some ⟨b2, o2, none⟩) c.ss.length r3, .slice B4 c.is.length r4]) (by repeat constructor)⟩, M.out.blk (g2, 28, #[.slice A1 c.ps.length k1, .slice A2 c.gs.length k2, .slice (some ⟨b1, o1, none⟩) c.ss.length k3, .slice A4 c.is.length k4]) (by repeat constructor)⟩ ?_
          refine tkp 3 rfl ⟨⟨M.out.now, M.out.blk (g3, 28, #[.slice B1 c.ps.length r1, .slice B2 c.gs.length r2, .slice (some ⟨b2, o2, none⟩) c.ss.length r3, .slice B4 c.is.length r4]) (by repeat constructor)⟩, M.out.blk (g2, 28, #[.slice A1 c.ps.length k1, .slice A2 c.gs.length k2, .slice (some ⟨b1, o1, none⟩) c.ss.length k3, .slice A4 c.is.length k4]) (by repeat constructor)⟩ ?_
          refine tk 4 rfl ⟨⟨M.out.now, M.out.blk (g3, 28, #[.slice B1 c.ps.length r1, .slice B2 c.gs.length r2, .slice (some ⟨b2, o2, none⟩) c.ss.length r3, .slice B4 c.is.length r4]) (by repeat constructor)⟩, M.out.blk (g2, 28, #[.slice A1 c.ps.length k1, .slice A2 c.gs.length k2, .slice (some ⟨b1, o1, none⟩) c.ss.length k3, .slice A4 c.is.length k4]) (by repeat constructor)⟩ (y_ldf F_CSel _ b1 (o1 + i * 8) rfl [.int .i64 e0, .string e1, .int .i64 e2, .int .i64 e3, .int .i64 e4, .bool e5, .bool e6, .int .i64 e7] (fun y h => HC1.out y h.1.1) rfl) ?_
          refine tkp 5 rfl ⟨⟨M.out.now, M.out.blk (g3, 28, #[.slice B1 c.ps.length r1, .slice B2 c.gs.length r2, .slice (some ⟨b2, o2, none⟩) c.ss.length r3, .slice B4 c.is.length r4]) (by repeat constructor)⟩, M.out.blk (g2, 28, #[.slice A1 c.ps.length k1, .slice A2 c.gs.length k2, .slice (some ⟨b1, o1, none⟩) c.ss.length k3, .slice A4 c.is.length k4]) (by repeat constructor)⟩ ?_
          refine tk 6 rfl ⟨⟨M.out.now, M.out.blk (g3, 28, #[.slice B1 c.ps.length r1, .slice B2 c.gs.length r2, .slice (some ⟨b2, o2, none⟩) c.ss.length r3, .slice B4 c.is.length r4]) (by repeat constructor)⟩, M.out.blk (g2, 28, #[.slice A1 c.ps.length k1, .slice A2 c.gs.length k2, .slice (some ⟨b1, o1, none⟩) c.ss.length k3, .slice A4 c.is.length k4]) (by repeat constructor)⟩ (y_ld1 O_sCSel _ g3 2 rfl _ _ (fun y h => h.1.2) _ rfl) ?_
          refine tkp 7 rfl ⟨⟨M.out.now, M.out.blk (g3, 28, #[.slice B1 c.ps.length r1, .slice B2 c.gs.length r2, .slice (some ⟨b2, o2, none⟩) c.ss.length r3, .slice B4 c.is.length r4]) (by repeat constructor)⟩, M.out.blk (g2, 28, #[.slice A1 c.ps.length k1, .slice A2 c.gs.length k2, .slice (some ⟨b1, o1, none⟩) c.ss.length k3, .slice A4 c.is.length k4]) (by repeat constructor)⟩ ?_
          refine tkp 8 rfl ⟨⟨M.out.now, M.out.blk (g3, 28, #[.slice B1 c.ps.length r1, .slice B2 c.gs.length r2, .slice (some ⟨b2, o2, none⟩) c.ss.length r3, .slice B4 c.is.length r4]) (by repeat constructor)⟩, M.out.blk (g2, 28, #[.slice A1 c.ps.length k1, .slice A2 c.gs.length k2, .slice (some ⟨b1, o1, none⟩) c.ss.length k3, .slice A4 c.is.length k4]) (by repeat constructor)⟩ ?_
          refine tk 9 rfl ⟨⟨M.out.now, M.out.blk (g3, 28, #[.slice B1 c.ps.length r1, .slice B2 c.gs.length r2, .slice (some ⟨b2, o2, none⟩) c.ss.length r3, .slice B4 c.is.length r4]) (by repeat constructor)⟩, M.out.blk (g2, 28, #[.slice A1 c.ps.length k1, .slice A2 c.gs.length k2, .slice (some ⟨b1, o1, none⟩) c.ss.length k3, .slice A4 c.is.length k4]) (by repeat constructor)⟩ (y_ldf F_CSel _ b2 (o2 + i * 8) rfl [.int .i64 e0, .string e1, .int .i64 e2, .int .i64 e3, .int .i64 e4, .bool e5, .bool e6, .int .i64 e7] (fun y h => HC2.out y h.1.1) rfl) ?_
          refine tkp 10 rfl ⟨⟨M.out.now, M.out.blk (g3, 28, #[.slice B1 c.ps.length r1, .slice B2 c.gs.length r2, .slice (some ⟨b2, o2, none⟩) c.ss.length r3, .slice B4 c.is.length r4]) (by repeat constructor)⟩, M.out.blk (g2, 28, #[.slice A1 c.ps.length k1, .slice A2 c.gs.length k2, .slice (some ⟨b1, o1, none⟩) c.ss.length k3, .slice A4 c.is.length k4]) (by repeat constructor)⟩ ?_ (v := .bool false) (hv := by intro w hS; go_simp)
          refine te ?_
          go_wp2
          go_roundg (c.ss.length - (i + 1))
          case measure => rw [HGK.out]; omega
          case rel => exact ⟨i + 1, by omega, rfl, by go_num, M⟩
        obtain rfl : i = c.ss.length := by omega
        go_wp2_with (first | ((with_reducible refine g_ld 25 ?_); refine l_ld1 O_sCSel rfl M.out (by repeat constructor) (by exact rfl) ?_) | ((with_reducible refine g_ld 26 ?_); refine l_ld1 O_sIns rfl M.out (by repeat constructor) (by exact rfl) ?_))
        go_loopg [8] c.is.length (fun gk ii wr => ∃ i : Nat, i ≤ c.is.length ∧ gk = c.is.length - i ∧ ii = .int .i64 i ∧ Hid (Own [] w wr [(g3, 28, #[.slice B1 c.ps.length r1, .slice B2 c.gs.length r2, .slice B3 c.ss.length r3, .slice B4 c.is.length r4]), (g2, 28, #[.slice A1 c.ps.length k1, .slice A2 c.gs.length k2, .slice A3 c.ss.length k3, .slice A4 c.is.length k4])] [] (fun y => CRd y c A1 A2 A3 A4 ∧ CRd y c B1 B2 B3 B4)))
        case atStart => exact ⟨0, Nat.zero_le _, rfl, rfl, M⟩
        case round =>
          clear M
          obtain ⟨i, hi, hgk, rfl, M⟩ := hrel
          have HGK := Lib.hid hgk
          clear hgk
          have hz := HZ.out
          by_cases hlt : i < c.is.length
          · obtain ⟨x, hx⟩ : ∃ x, c.is[i]? = some x := ⟨_, List.getElem?_eq_getElem hlt⟩
            obtain ⟨b1, o1, e1, hc1⟩ := rdd_atS insC 7 (fun _ => rfl) (fun y => CRd y c A1 A2 A3 A4 ∧ CRd y c B1 B2 B3 B4) (fun y h => CRd.i (And.left h)) M.out.now HSA.out.2.2.2 hx
            obtain ⟨b2, o2, e2, hc2⟩ := rdd_atS insC 7 (fun _ => rfl) (fun y => CRd y c A1 A2 A3 A4 ∧ CRd y c B1 B2 B3 B4) (fun y h => CRd.i (And.right h)) M.out.now HSB.out.2.2.2 hx
            subst e1 e2
            obtain ⟨e0, e1, e2, e3, e4, e5, e6⟩ := x
            have HC1 := Lib.hid hc1
            have HC2 := Lib.hid hc2
            clear hc1 hc2 hx
            have hlti : (i : Int) < (c.is.length : Int) := by omega
            go_upto_region 21 with (first | ((with_reducible refine g_ld 26 ?_); refine l_ld1 O_sIns rfl M.out (by repeat constructor) (by exact rfl) ?_))
            replace M := Lib.hid M.out.drew
            refine tb (fun y => ((CRd y c A1 A2 A3 (some ⟨b1, o1, none⟩) ∧ CRd y c B1 B2 B3 (some ⟨b2, o2, none⟩)) ∧ Blk y g3 28 #[.slice B1 c.ps.length r1, .slice B2 c.gs.length r2, .slice B3 c.ss.length r3, .slice (some ⟨b2, o2, none⟩) c.is.length r4]) ∧ Blk y g2 28 #[.slice A1 c.ps.length k1, .slice A2 c.gs.length k2, .slice A3 c.ss.length k3, .slice (some ⟨b1, o1, none⟩) c.is.length k4]) ⟨⟨M.out.now, M.out.blk (g3, 28, #[.slice B1 c.ps.length r1, .slice B2 c.gs.length r2, .slice B3 c.ss.length r3, .slice (some ⟨b2, o2, none⟩) c.is.length r4]) (by repeat constructor)⟩, M.out.blk (g2, 28, #[.slice A1 c.ps.length k1, .slice A2 c.gs.length k2, .slice A3 c.ss.length k3, .slice (some ⟨b1, o1, none⟩) c.is.length k4]) (by repeat constructor)⟩ ?_
            refine tkp 0 rfl ⟨⟨M.out.now, M.out.blk (g3, 28, #[.slice B1 c.ps.length r1, .slice B2 c.gs.length r2, .slice B3 c.ss.length r3, .slice (some ⟨b2, o2, none⟩) c.is.length r4]) (by repeat constructor)⟩, M.out.blk (g2, 28, #[.slice A1 c.ps.length k1, .slice A2 c.gs.length k2, .slice A3 c.ss.length k3, .slice (some ⟨b1, o1, none⟩) c.is.length k4]) (by repeat constructor)⟩ ?_
            refine tk 1 rfl ⟨⟨M.out.now, M.out.blk (g3, 28, #[.slice B1 c.ps.length r1, .slice B2 c.gs.length r2, .slice B3 c.ss.length r3, .slice (some ⟨b2, o2, none⟩) c.is.length r4]) (by repeat constructor)⟩, M.out.blk (g2, 28, #[.slice A1 c.ps.length k1, .slice A2 c.gs.length k2, .slice A3 c.ss.length k3, .slice (some ⟨b1, o1, none⟩) c.is.length k4]) (by repeat constructor)⟩ (y_ld1 O_sIns _ g2 3 rfl _ _ (fun y h => h.2) _ rfl) ?_
            refine tkp 2 rfl ⟨⟨M.out.now, M.out.blk (g3, 28, #[.slice B1 c.ps.length r1, .slice B2 c.gs.length r2, .slice B3 c.ss.length r3, .slice (some ⟨b2, o2, none⟩) c.is.length r4]) (by repeat constructor)⟩, M.out.blk (g2, 28, #[.slice A1 c.ps.length k1, .slice A2 c.gs.length k2, .slice A3 c.ss.length k3, .slice (some ⟨b1, o1, none⟩) c.is.length k4]) (by repeat constructor)⟩ ?_
            refine tkp 3 rfl ⟨⟨M.out.now, M.out.blk (g3, 28, #[.slice B1 c.ps.length r1, .slice B2 c.gs.length r2, .slice B3 c.ss.length r3, .slice (some ⟨b2, o2, none⟩) c.is.length r4]) (by repeat constructor)⟩, M.out.blk (g2, 28, #[.slice A1 c.ps.length k1, .slice A2 c.gs.length k2, .slice A3 c.ss.length k3, .slice (some ⟨b1, o1, none⟩) c.is.length k4]) (by repeat constructor)⟩ ?_
            refine tk 4 rfl ⟨⟨M.out.now, M.out.blk (g3, 28, #[.slice B1 c.ps.length r1, .slice B2 c.gs.length r2, .slice B3 c.ss.length r3, .slice (some ⟨b2, o2, none⟩) c.is.length r4]) (by repeat constructor)⟩, M.out.blk (g2, 28, #[.slice A1 c.ps.length k1, .slice A2 c.gs.length k2, .slice A3 c.ss.length k3, .slice (some ⟨b1, o1, none⟩) c.is.length k4]) (by repeat constructor)⟩ (y_ldf F_Ins _ b1 (o1 + i * 7) rfl [.int .i64 e0, .int .i64 e1, .int .i64 e2, .int .i64 e3, .int .i64 e4, .string e5, .int .i64 e6] (fun y h => HC1.out y h.1.1) rfl) ?_
            refine tkp 5 rfl ⟨⟨M.out.now, M.out.blk (g3, 28, #[.slice B1 c.ps.length r1, .slice B2 c.gs.length r2, .slice B3 c.ss.length r3, .slice (some ⟨b2, o2, none⟩) c.is.length r4]) (by repeat constructor)⟩, M.out.blk (g2, 28, #[.slice A1 c.ps.length k1, .slice A2 c.gs.length k2, .slice A3 c.ss.length k3, .slice (some ⟨b1, o1, none⟩) c.is.length k4]) (by repeat constructor)⟩ ?_
            refine tk 6 rfl ⟨⟨M.out.now, M.out.blk (g3, 28, #[.slice B1 c.ps.length r1, .slice B2 c.gs.length r2, .slice B3 c.ss.length r3, .slice (some ⟨b2, o2, none⟩) c.is.length r4]) (by repeat constructor)⟩, M.out.blk (g2, 28, #[.slice A1 c.ps.length k1, .slice A2 c.gs.length k2, .slice A3 c.ss.length k3, .slice (some ⟨b1, o1, none⟩) c.is.length k4]) (by repeat constructor)⟩ (y_ld1 O_sIns _ g3 3 rfl _ _ (fun y h => h.1.2) _ rfl) ?_
            refine tkp 7 rfl ⟨⟨M.out.now, M.out.blk (g3, 28, #[.slice B1 c.ps.length r1, .slice B2 c.gs.length r2, .slice B3 c.ss.length r3, .slice (some ⟨b2, o2, none⟩) c.is.length r4]) (by repeat constructor)⟩, M.out.blk (g2, 28, #[.slice A1 c.ps.length k1, .slice A2 c.gs.length k2, .slice A3 c.ss.length k3, .slice (some ⟨b1, o1, none⟩) c.is.length k4]) (by repeat constructor)⟩ ?_
            refine tkp 8 rfl ⟨⟨M.out.now, M.out.blk (g3, 28, #[.slice B1 c.ps.length r1, .slice B2 c.gs.length r2, .slice B3 c.ss.length r3, .slice (some ⟨b2, o2, none⟩) c.is.length r4]) (by repeat constructor)⟩, M.out.blk (g2, 28, #[.slice A1 c.ps.length k1, .slice A2 c.gs.length k2, .slice A3 c.ss.length k3, .slice (some ⟨b1, o1, none⟩) c.is.length k4]) (by repeat constructor)⟩ ?_
            refine tk 9 rfl ⟨⟨M.out.now, M.out.blk (g3, 28, #[.slice B1 c.ps.length r1, .slice B2 c.gs.length r2, .slice B3 c.ss.length r3, .slice (some ⟨b2, o2, none⟩) c.is.length r4]) (by repeat constructor)⟩, M.out.blk (g2, 28, #[.slice A1 c.ps.length k1, .slice A2 c.gs.length k2, .slice A3 c.ss.length k3, .slice (some ⟨b1, o1, none⟩) c.is.length k4]) (by repeat constructor)⟩ (y_ldf F_Ins _ b2 (o2 + i * 7) rfl [.int .i64 e0, .int .i64 e1, .int .i64 e2, .int .i64 e3, .int .i64 e4, .string e5, .int .i64 e6] (fun y h => HC2.out y h.1.1) rfl) ?_
            refine tkp 10 rfl ⟨⟨M.out.now, M.out.blk (g3, 28, #[.slice B1 c.ps.length r1, .slice B2 c.gs.length r2, .slice B3 c.ss.length r3, .slice (some ⟨b2, o2, none⟩) c.is.length r4]) (by repeat constructor)⟩, M.out.blk (g2, 28, #[.slice A1 c.ps.length k1, .slice A2 c.gs.length k2, .slice A3 c.ss.length k3, .slice (some ⟨b1, o1, none⟩) c.is.length k4]) (by repeat constructor)⟩ ?_ (v := .bool false) (hv := by intro w hS; go_simp)
            refine te ?_
            go_wp2
            go_roundg (c.is.length - (i + 1))
            case measure => rw [HGK.out]; omega
            case rel => exact ⟨i + 1, by omega, rfl, by go_num, M⟩
          obtain rfl : i = c.is.length := by omega
          go_wp2_with (first | ((with_reducible refine g_ld 26 ?_); refine l_ld1 O_sIns rfl M.out (by repeat constructor) (by exact rfl) ?_))
          go_ret
          exact ⟨rfl, M.out.bel0⟩


end Go.Proofs.YtpcbcodmocmilaaGreatDoor
