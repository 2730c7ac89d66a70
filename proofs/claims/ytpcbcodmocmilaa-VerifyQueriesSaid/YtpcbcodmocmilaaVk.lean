/- verify: instructions. -/
import Derived.Deep.OwnRows
import Derived.Test.YtpcbcodmocmilaaG45
namespace Go.Proofs.Ytpcbcodmocmilaa
open Go.RowKit

/-- The memory while a filter's instructions are gone through. -/
def HS (w wr : World) (cv : Array Value) (a g n : Nat) (hs : List Int) : Prop :=
  Blk wr w.heap.size 29 cv ∧ Blk wr (w.heap.size + 1) 3 #[.int .i64 (a : Int)] ∧ Blk wr g 3 (ints hs) ∧ Blk wr (g + 1) 75 #[.slice (some ⟨g, 0, none⟩) (n + 1) (n + 1)] ∧ Bel w.heap.size w wr ∧ w.heap.size + 1 < g
theorem HS.bel {w wr w2 : World} {cv : Array Value} {a g n : Nat} {hs : List Int} (h : HS w wr cv a g n hs) (hb : Bel wr.heap.size wr w2) : HS w w2 cv a g n hs :=
  ⟨h.1.bel hb h.1.lt, h.2.1.bel hb h.2.1.lt, h.2.2.1.bel hb h.2.2.1.lt, h.2.2.2.1.bel hb h.2.2.2.1.lt, h.2.2.2.2.1.next hb, h.2.2.2.2.2⟩
theorem HS.set {w wr : World} {cv : Array Value} {a g n : Nat} {hs : List Int} (h : HS w wr cv a g n hs) (i : Nat) (v : Int) : HS w (wr.setCell ⟨g, i, none⟩ (.int .i64 v)) cv a g n (hs.set i v) := by
  obtain ⟨h1, h2, h3, h4, h5, h6⟩ := h
  exact ⟨h1.far (by simp; omega) _, h2.far (by simp; omega) _, by rw [← ints_set]; exact h3.set_ i _, h4.far (by simp) _, h5.setCell (by simp; omega) _, h6⟩
theorem HS.start {w w1 : World} {cv : Array Value} {a n : Nat} {hs : List Int} (hb : Bel ((w.alloc (.cells cv 29)).alloc (.cells #[.int .i64 (a : Int)] 3)).heap.size ((w.alloc (.cells cv 29)).alloc (.cells #[.int .i64 (a : Int)] 3)) w1) :
    HS w ((w1.alloc (.cells (ints hs) 3)).alloc (.cells #[.slice (some ⟨w1.heap.size, 0, none⟩) (n + 1) (n + 1)] 75)) cv a w1.heap.size n hs := by
  have hsz := hb.size
  simp at hsz
  refine ⟨((((Blk.new _ _ _).alloc _).bel hb (by simp; omega)).alloc _).alloc _, (((Blk.new1 _ _ _ _).bel hb (by simp)).alloc _).alloc _, (Blk.new _ _ _).alloc _, Blk.new1 _ _ _ _, ?_, by omega⟩
  refine Bel.alloc (Bel.alloc (Bel.trans (((Bel.refl _ _).alloc (Nat.le_refl _) _).alloc (by simp) _) (hb.mono (by simp; omega))) (by omega) _) (by simp; omega) _

theorem HS.pre {w w1 : World} {cv : Array Value} {a : Nat} (hb : Bel ((w.alloc (.cells cv 29)).alloc (.cells #[.int .i64 (a : Int)] 3)).heap.size ((w.alloc (.cells cv 29)).alloc (.cells #[.int .i64 (a : Int)] 3)) w1) :
    w.heap.size + 1 < w1.heap.size ∧ w1.cell? ⟨w.heap.size + 1, 0, none⟩ = some (.int .i64 (a : Int)) ∧ w1.frozen? ⟨w.heap.size + 1, 0, none⟩ = false := by
  have hsz := hb.size
  simp at hsz
  have hx : Blk w1 (w.heap.size + 1) 3 #[.int .i64 (a : Int)] := (Blk.new1 _ _ _ _).bel hb (by simp)
  exact ⟨by omega, hx.cell 0, hx.frozen 0⟩

set_option maxRecDepth 100000 in
set_option maxHeartbeats 2000000 in
theorem instrs_any (A1 A2 A3 A4 : Option Addr) (c1 c2 c3 c4 : Nat) (cd : CodeD) (p at_ : Int) (w : World) (h : CM w A1 A2 A3 A4 cd) (l1 : cd.ps.length ≤ 1000000000) (l2 : cd.gs.length ≤ 1000000000) (l3 : cd.ss.length ≤ 1000000000) (l4 : cd.is.length ≤ 1000000000) (lc : cd.gs.length ≤ c2) :
    Calls Try.prog 15 #[.agg #[.slice A1 cd.ps.length c1, .slice A2 cd.gs.length c2, .slice A3 cd.ss.length c3, .slice A4 cd.is.length c4], .int .i64 p, .int .i64 at_] w fun e w' => NP' (filterOK cd p at_) e ∧ Bel w.heap.size w w' := by
  have hen := fun w h => end_any A1 A2 A3 A4 c1 c2 c3 c4 cd at_ w h l4
  have hin := fun x k last hh w h => ins_any A1 A2 A3 A4 c1 c2 c3 c4 cd x p k last hh w h l1 l2 l3 lc
  have hT : ∀ w', Bel w.heap.size w w' → filterOK cd p at_ = true → (NP' (filterOK cd p at_) (.returned (.tuple #[])) ∧ Bel w.heap.size w w') := fun w' hb ht => ⟨by rw [ht]; rfl, hb⟩
  have hP : ∀ w', Bel w.heap.size w w' → filterOK cd p at_ = false → (NP' (filterOK cd p at_) (.panicked FAULT) ∧ Bel w.heap.size w w') := fun w' hb ht => ⟨by rw [ht]; rfl, hb⟩
  generalize hPp : (fun e w' => NP' (filterOK cd p at_) e ∧ Bel w.heap.size w w') = PP
  replace hT : ∀ w', Bel w.heap.size w w' → filterOK cd p at_ = true → PP (.returned (.tuple #[])) w' := fun w' hb h1 => by rw [← hPp]; exact hT w' hb h1
  replace hP : ∀ w', Bel w.heap.size w w' → filterOK cd p at_ = false → PP (.panicked FAULT) w' := fun w' hb h1 => by rw [← hPp]; exact hP w' hb h1
  have HT := Lib.hid hT; have HP := Lib.hid hP; clear hT hP hPp
  have HB0 := Lib.hid (show Bel w.heap.size w ((w.alloc (.cells #[.slice A1 cd.ps.length c1, .slice A2 cd.gs.length c2, .slice A3 cd.ss.length c3, .slice A4 cd.is.length c4] 29)).alloc (.cells #[.int .i64 at_] 3)) from ((Bel.refl _ _).alloc (Nat.le_refl _) _).alloc (by simp) _)
  have HC := Lib.hid h
  have HC0 := Lib.hid (h.bel HB0.out)
  clear h
  have hmf : ∀ (fn : Fn) (first cap : Array Value) (w : World), (Instr.makeFunc fn first cap).run Try.prog w = .ok (.func fn first cap) w := fun _ _ _ _ => rfl
  unfold EndP at hen
  cases hel : endI cd at_ with
  | none =>
    rw [hel] at hen
    simp only at hen
    have HF := Lib.hid (show filterOK cd p at_ = false by
      unfold endI endF at hel; unfold filterOK
      by_cases h0 : at_ < 0
      · rw [if_pos h0]
      · rw [if_neg h0] at hel ⊢; rw [hel])
    clear hel
    go_enter Try.func15, Try.ntmps15
    go_wp2_with (go_at_call 23; refine (hen _ HC0.out).mono ?_; rintro e w1 ⟨hb, rfl⟩; have HB1 := Lib.hid (HB0.out.next hb); clear hb)
    exact ⟨rfl, HP.out _ HB1.out HF.out⟩
  | some n =>
    rw [hel] at hen
    simp only at hen
    have h0 : ¬ at_ < 0 := by intro h0; unfold endI at hel; rw [if_pos h0] at hel; cases hel
    obtain ⟨a, rfl⟩ : ∃ a : Nat, at_ = a := ⟨at_.toNat, by omega⟩
    have hel2 : (cd.is.drop a).findIdx? (fun x => x.op == 5) = some n := by unfold endI endF at hel; rw [if_neg h0, Int.toNat_natCast] at hel; exact hel
    have hal : a + n < cd.is.length := by
      have := (List.findIdx?_eq_some_iff_getElem.1 hel2).1
      rw [List.length_drop] at this; omega
    have HQ := Lib.hid (filter_fin cd p a n hel2)
    obtain ⟨L, hL⟩ : ∃ L, a + n = L := ⟨_, rfl⟩
    have hen2 : ∀ w, CM w A1 A2 A3 A4 cd → Calls Try.prog 23 #[.agg #[.slice A1 cd.ps.length c1, .slice A2 cd.gs.length c2, .slice A3 cd.ss.length c3, .slice A4 cd.is.length c4], .int .i64 (a : Int)] w fun e w' => Bel w.heap.size w w' ∧ e = .returned (.int .i64 (L : Int)) := fun w h => (hen w h).mono fun e w' ⟨h1, h2⟩ => ⟨h1, by rw [h2, ← hL]; simp⟩
    have e1 : (L : Int) - (a : Int) = (n : Int) := by omega
    have hmk := run_make_row' (P := Try.prog) 75 3 (.int .i64 0) 8 Try.underlying75 (by kernel_rfl) rfl .i64 .i64 (n + 1) (by omega) (by omega)
    have hmd : madeCells #[.int .i64 0] (n + 1) = ints (List.replicate (n + 1) 0) := by
      unfold madeCells ints
      apply Array.ext
      · simp
      · intro i h1 h2; simp [Nat.mod_one]
    rw [hmd] at hmk
    rw [show ((n + 1 : Nat) : Int) = (n : Int) + 1 by omega] at hmk
    have HL := Lib.hid hL
    clear hel hel2 h0 hmd hen hL
    go_enter Try.func15, Try.ntmps15
    go_upto_region 3 with (go_at_call 23; refine (hen2 _ HC0.out).mono ?_; rintro e w1 ⟨hb, rfl⟩; have HS0 := Lib.hid (HS.start (n := n) (hs := List.replicate (n + 1) 0) hb); obtain ⟨z5, q5, r5⟩ := HS.pre hb; have HB1 := Lib.hid (HB0.out.next hb); clear hb)
    go_wp2
    go_loopw [24] (fun i wr => ∃ k : Nat, k ≤ n + 1 ∧ i = .int .i64 k ∧ Hid (HS w wr #[.slice A1 cd.ps.length c1, .slice A2 cd.gs.length c2, .slice A3 cd.ss.length c3, .slice A4 cd.is.length c4] a w1.heap.size n (List.replicate k (-1) ++ List.replicate (n + 1 - k) 0))) (fun i _ => n + 1 - (intOf i).toNat)
    case atStart => exact ⟨0, by omega, rfl, Lib.hid (by simpa using HS0.out)⟩
    case round =>
      clear HS0
      obtain ⟨k, hkn, rfl, HS1⟩ := hrel
      obtain ⟨hb1, hb2, hb3, hb4, hbe, _⟩ := HS1.out; obtain ⟨xsz, ⟨x0, x1, x2, x3⟩, y0, y1, y2, y3⟩ := hb1.four; have p5 := hb2.cell 0; have p7 := hb4.cell 0; have z7 := hb4.lt; have z5' := hb2.lt; have zg := hb3.lt; have fg := hb3.frozen; simp only [List.getElem?_toArray, List.getElem?_cons_zero] at p5 p7
      clear hb1 hb2 hb3 hb4 hbe
      by_cases hlt : k < n + 1
      · have hkl : (k : Int) < (n : Int) + 1 := by omega
        have HS2 := HS1.out.set k (-1)
        rw [fill_step n k hlt] at HS2
        have HS3 := Lib.hid HS2
        clear HS2
        obtain ⟨v, hv0⟩ := fill_get n k hlt
        have hv : wr.cell? ⟨w1.heap.size, k, none⟩ = some (.int .i64 v) := (HS1.out.2.2.1.cell k).trans (ints_get _ k v hv0)
        clear hv0
        have fgk := fg k
        clear fg
        go_wp2
        go_roundw
        case rel => exact ⟨k + 1, by omega, by go_num, HS3⟩
        case measure => simp [intOf]; omega
      · obtain rfl : k = n + 1 := by omega
        have HS2 := Lib.hid (show HS w wr #[.slice A1 cd.ps.length c1, .slice A2 cd.gs.length c2, .slice A3 cd.ss.length c3, .slice A4 cd.is.length c4] a w1.heap.size n (List.replicate (n + 1) (-1)) from by have := HS1.out; simpa using this)
        have hm0 := meet_any w1.heap.size (w1.heap.size + 1) (w.heap.size + 1) a 0 (n + 1) 0 (List.replicate (n + 1) (-1)) wr HS2.out.2.2.1 HS2.out.2.2.2.1 HS2.out.2.1 (by simp) (by omega) (by omega)
        unfold MeetP at hm0
        rw [show meetL (List.replicate (n + 1) (-1)) 0 0 = some (0 :: List.replicate n (-1)) by simp [meetL, List.replicate_succ]] at hm0
        simp only [Nat.add_zero] at hm0
        have HS3 := Lib.hid (show HS w (wr.setCell ⟨w1.heap.size, 0, none⟩ (.int .i64 0)) #[.slice A1 cd.ps.length c1, .slice A2 cd.gs.length c2, .slice A3 cd.ss.length c3, .slice A4 cd.is.length c4] a w1.heap.size n (0 :: List.replicate n (-1)) from HS2.out.set 0 0)
        obtain ⟨hb1, hb2, hb3, hb4, hbe, _⟩ := HS2.out; obtain ⟨xsz, ⟨x0, x1, x2, x3⟩, y0, y1, y2, y3⟩ := hb1.four; have p5 := hb2.cell 0; have p7 := hb4.cell 0; have z7 := hb4.lt; have z5' := hb2.lt; have zg := hb3.lt; have fg := hb3.frozen; simp only [List.getElem?_toArray, List.getElem?_cons_zero] at p5 p7
        have fg0 := fg 0
        have pg0 : wr.cell? ⟨w1.heap.size, 0, none⟩ = some (.int .i64 (-1)) := (hb3.cell 0).trans (ints_get _ 0 (-1) rfl)
        clear hb1 hb2 hb3 hb4 hbe fg
        go_wp2_with (go_at_call 24; refine hm0.mono ?_; rintro e w3 ⟨rfl, rfl⟩)
        clear hm0 xsz x0 x1 x2 x3 y0 y1 y2 y3 p5 p7 z7 z5' zg fg0 pg0 HS1 HS2 HB1 z5 q5 r5 hkn
        go_loopw [10] (fun i wr => ∃ (k K : Nat) (hs : List Int), k ≤ n ∧ Hid (a + k = K) ∧ i = .int .i64 (K : Int) ∧ hs.length = n + 1 ∧ Hid (HB k hs) ∧ Hid (filterOK cd p (a : Int) = finL n (runL cd p a (a + n) ((cd.is.drop (a + k)).take (n - k)) (a + k) hs)) ∧ Hid (HS w wr #[.slice A1 cd.ps.length c1, .slice A2 cd.gs.length c2, .slice A3 cd.ss.length c3, .slice A4 cd.is.length c4] a w1.heap.size n hs)) (fun i _ => a + n - (intOf i).toNat)
        case atStart => exact ⟨0, a, _, by omega, Lib.hid rfl, rfl, by simp, Lib.hid (HB_start n), HQ, HS3⟩
        case round =>
          clear HS3 HQ
          obtain ⟨k, K, hs, hkn, HK, rfl, hln, HB, HQ, HS1⟩ := hrel
          have hKL : K ≤ L := by have := HK.out; have := HL.out; omega
          have HN := Lib.hid hln
          obtain ⟨v, hv⟩ : ∃ v, hs[k]? = some v := ⟨_, List.getElem?_eq_getElem (by omega)⟩
          clear hln
          have HV := Lib.hid hv
          have hvb := HB.out.get hv
          have hka : (K : Int) - (a : Int) = (k : Int) := by have := HK.out; omega
          obtain ⟨hb1, hb2, hb3, hb4, hbe, _⟩ := HS1.out; obtain ⟨xsz, ⟨x0, x1, x2, x3⟩, y0, y1, y2, y3⟩ := hb1.four; have p5 := hb2.cell 0; have p7 := hb4.cell 0; have z7 := hb4.lt; have z5' := hb2.lt; have zg := hb3.lt; have fg := hb3.frozen; simp only [List.getElem?_toArray, List.getElem?_cons_zero] at p5 p7
          by_cases hlt : K < L
          · have hkl : (K : Int) < (L : Int) := by omega
            have hkn2 : k < n := by have := HK.out; have := HL.out; omega
            have pg : wr.cell? ⟨w1.heap.size, k, none⟩ = some (.int .i64 v) := (hb3.cell k).trans (ints_get _ k v hv)
            obtain ⟨x, hx⟩ : ∃ x, cd.is[K]? = some x := ⟨_, List.getElem?_eq_getElem (by have := HL.out; omega)⟩
            have HST := Lib.hid (HQ.out.trans (run_step cd p a n k hs x v hkn2 (by rw [HK.out]; exact hx) hv))
            have HCw := Lib.hid (HC.out.bel hbe)
            obtain ⟨b4, o4, e4, hb4', hc4⟩ := HCw.out.i.resolve_left (by intro e; rw [e] at hal; simp at hal)
            subst e4
            obtain ⟨g0, g1, g2, g3, g4, g5, g6⟩ := hc4 K x hx
            have hin2 := fun w h => hin x (K : Int) (L : Int) v w h
            clear hc4 hx hv hb1 hb2 hb3 hb4 hbe
            rw [HK.out, HL.out] at HST
            have hKi : (K : Int) < cd.is.length := by have := HL.out; omega
            go_upto_region 13 with fail
            go_region
            all_goals
              have HS2 := Lib.hid (show HS w ((wr.alloc (.cells #[.int .i64 x.op, .int .i64 x.p, .int .i64 x.sign, .int .i64 x.kind, .int .i64 x.n, .string x.s, .int .i64 x.tt] 36))).drew #[.slice A1 cd.ps.length c1, .slice A2 cd.gs.length c2, .slice A3 cd.ss.length c3, .slice (some ⟨b4, o4, none⟩) cd.is.length c4] a w1.heap.size n hs from HS1.out.bel (((Bel.refl _ _).alloc (Nat.le_refl _) _).drew))
              have HC4 := Lib.hid (show CM ((wr.alloc (.cells #[.int .i64 x.op, .int .i64 x.p, .int .i64 x.sign, .int .i64 x.kind, .int .i64 x.n, .string x.s, .int .i64 x.tt] 36))).drew A1 A2 A3 (some ⟨b4, o4, none⟩) cd from HC.out.bel HS2.out.2.2.2.2.1)
              clear g0 g1 g2 g3 g4 g5 g6 pg p5 p7 z7 z5' zg fg
              unfold InsP at hin2
              cases hi : insI cd x p (K : Int) (L : Int) v with
              | none =>
                rw [hi] at hin2 HST
                simp only at hin2
                have HF := Lib.hid (show filterOK cd p (a : Int) = false from HST.out)
                clear hi HST HQ
                go_wp2_with (go_at_call 25; refine (hin2 _ HC4.out).mono ?_; rintro e w4 ⟨hb, rfl⟩; have HS4 := Lib.hid (HS2.out.bel hb); clear hb)
                exact ⟨rfl, HP.out _ HS4.out.2.2.2.2.1 HF.out⟩
              | some d =>
                rw [hi] at hin2 HST
                simp only at hin2
                have HQ2 := Lib.hid (show filterOK cd p (a : Int) = finM cd p a n k v d (if d < 0 then meetL hs (x.tt.toNat - a) v else some hs) from HST.out)
                clear HST HQ
                have hK1 : a + (k + 1) = K + 1 := by have := HK.out; omega
                have hK2 : ((a + (k + 1) : Nat) : Int) = (K : Int) + 1 := by omega
                have HK2 := Lib.hid hK1
                rcases ins_bd cd x p (K : Int) (L : Int) v d hi with ⟨rfl, hv1, ht1, ht2⟩ | hd01
                · clear hi
                  obtain ⟨t, ht⟩ : ∃ t : Nat, x.tt = t := ⟨x.tt.toNat, by omega⟩
                  rw [ht] at HQ2 ht1 ht2
                  obtain ⟨i, hi⟩ : ∃ i, t = a + i := ⟨t - a, by have := HK.out; omega⟩
                  have hin1 : i < n + 1 := by have := HL.out; omega
                  have HI := Lib.hid hi
                  have hm1 : ∀ wz, HS w wz #[.slice A1 cd.ps.length c1, .slice A2 cd.gs.length c2, .slice A3 cd.ss.length c3, .slice (some ⟨b4, o4, none⟩) cd.is.length c4] a w1.heap.size n hs → Calls Try.prog 24 #[.int .i64 (t : Int), .int .i64 v, .pointer (some ⟨w1.heap.size + 1, 0, none⟩), .pointer (some ⟨w.heap.size + 1, 0, none⟩)] wz (MeetP hs i v w1.heap.size wz) := fun wz hz => by
                    have := meet_any w1.heap.size (w1.heap.size + 1) (w.heap.size + 1) a i (n + 1) v hs wz hz.2.2.1 hz.2.2.2.1 hz.2.1 HN.out hin1 (by omega)
                    rw [← hi] at this; exact this
                  have HTT := Lib.hid ht
                  rw [show (t : Int).toNat - a = i by omega, if_pos (by omega)] at HQ2
                  clear hi ht hK1
                  unfold MeetP at hm1
                  cases hme : meetL hs i v with
                  | none =>
                    rw [hme] at hm1 HQ2
                    simp only at hm1
                    have HF := Lib.hid (show filterOK cd p (a : Int) = false from HQ2.out)
                    clear hme HQ2 hK2
                    go_upto_region 16 with (go_at_call 25; refine (hin2 _ HC4.out).mono ?_; rintro e w4 ⟨hb, rfl⟩; have HS4 := Lib.hid (HS2.out.bel hb); obtain ⟨_, hd2, hd3, hd4, hdb, _⟩ := HS4.out; have p5 := hd2.cell 0; have p7 := hd4.cell 0; have z7 := hd4.lt; have z5' := hd2.lt; have zg := hd3.lt; simp only [List.getElem?_toArray, List.getElem?_cons_zero] at p5 p7; have x6 := ((show Blk ((wr.alloc (.cells #[.int .i64 x.op, .int .i64 x.p, .int .i64 x.sign, .int .i64 x.kind, .int .i64 x.n, .string x.s, .int .i64 x.tt] 36))).drew wr.heap.size 36 #[.int .i64 x.op, .int .i64 x.p, .int .i64 x.sign, .int .i64 x.kind, .int .i64 x.n, .string x.s, .int .i64 x.tt] from Blk.new wr 36 #[.int .i64 x.op, .int .i64 x.p, .int .i64 x.sign, .int .i64 x.kind, .int .i64 x.n, .string x.s, .int .i64 x.tt]).bel hb (by simp)).cell 6; simp only [List.getElem?_toArray, List.getElem?_cons_zero, List.getElem?_cons_succ] at x6; have xw := ((show Blk ((wr.alloc (.cells #[.int .i64 x.op, .int .i64 x.p, .int .i64 x.sign, .int .i64 x.kind, .int .i64 x.n, .string x.s, .int .i64 x.tt] 36))).drew wr.heap.size 36 #[.int .i64 x.op, .int .i64 x.p, .int .i64 x.sign, .int .i64 x.kind, .int .i64 x.n, .string x.s, .int .i64 x.tt] from Blk.new wr 36 #[.int .i64 x.op, .int .i64 x.p, .int .i64 x.sign, .int .i64 x.kind, .int .i64 x.n, .string x.s, .int .i64 x.tt]).bel hb (by simp)).lt; clear hd2 hd3 hd4 hdb hb)
                    rw [HTT.out] at x6
                    go_wp2_with (go_at_call 24; refine (hm1 _ HS4.out).mono ?_; rintro e w5 ⟨rfl, rfl⟩)
                    exact ⟨rfl, HP.out _ HS4.out.2.2.2.2.1 HF.out⟩
                  | some h2 =>
                    rw [hme] at hm1 HQ2
                    simp only at hm1
                    obtain rfl := meetL_some hme
                    have hm2 : ∀ wz, HS w wz #[.slice A1 cd.ps.length c1, .slice A2 cd.gs.length c2, .slice A3 cd.ss.length c3, .slice (some ⟨b4, o4, none⟩) cd.is.length c4] a w1.heap.size n (hs.set i v) → Calls Try.prog 24 #[.int .i64 ((K : Int) + 1), .int .i64 (v - 1), .pointer (some ⟨w1.heap.size + 1, 0, none⟩), .pointer (some ⟨w.heap.size + 1, 0, none⟩)] wz (MeetP (hs.set i v) (k + 1) (v - 1) w1.heap.size wz) := fun wz hz => by
                      have := meet_any w1.heap.size (w1.heap.size + 1) (w.heap.size + 1) a (k + 1) (n + 1) (v - 1) (hs.set i v) wz hz.2.2.1 hz.2.2.2.1 hz.2.1 (by rw [List.length_set]; exact HN.out) (by omega) (by omega)
                      rw [hK2] at this; exact this
                    unfold MeetP at hm2
                    unfold finM at HQ2
                    simp only at HQ2
                    have e9 : v + -1 = v - 1 := by omega
                    rw [e9] at HQ2
                    clear hme hK2 e9
                    cases hme2 : meetL (hs.set i v) (k + 1) (v - 1) with
                    | none =>
                      rw [hme2] at hm2 HQ2
                      simp only at hm2
                      have HF := Lib.hid (show filterOK cd p (a : Int) = false from HQ2.out)
                      clear hme2 HQ2
                      go_upto_region 16 with (go_at_call 25; refine (hin2 _ HC4.out).mono ?_; rintro e w4 ⟨hb, rfl⟩; have HS4 := Lib.hid (HS2.out.bel hb); obtain ⟨_, hd2, hd3, hd4, hdb, _⟩ := HS4.out; have p5 := hd2.cell 0; have p7 := hd4.cell 0; have z7 := hd4.lt; have z5' := hd2.lt; have zg := hd3.lt; simp only [List.getElem?_toArray, List.getElem?_cons_zero] at p5 p7; have x6 := ((show Blk ((wr.alloc (.cells #[.int .i64 x.op, .int .i64 x.p, .int .i64 x.sign, .int .i64 x.kind, .int .i64 x.n, .string x.s, .int .i64 x.tt] 36))).drew wr.heap.size 36 #[.int .i64 x.op, .int .i64 x.p, .int .i64 x.sign, .int .i64 x.kind, .int .i64 x.n, .string x.s, .int .i64 x.tt] from Blk.new wr 36 #[.int .i64 x.op, .int .i64 x.p, .int .i64 x.sign, .int .i64 x.kind, .int .i64 x.n, .string x.s, .int .i64 x.tt]).bel hb (by simp)).cell 6; simp only [List.getElem?_toArray, List.getElem?_cons_zero, List.getElem?_cons_succ] at x6; have xw := ((show Blk ((wr.alloc (.cells #[.int .i64 x.op, .int .i64 x.p, .int .i64 x.sign, .int .i64 x.kind, .int .i64 x.n, .string x.s, .int .i64 x.tt] 36))).drew wr.heap.size 36 #[.int .i64 x.op, .int .i64 x.p, .int .i64 x.sign, .int .i64 x.kind, .int .i64 x.n, .string x.s, .int .i64 x.tt] from Blk.new wr 36 #[.int .i64 x.op, .int .i64 x.p, .int .i64 x.sign, .int .i64 x.kind, .int .i64 x.n, .string x.s, .int .i64 x.tt]).bel hb (by simp)).lt; clear hd2 hd3 hd4 hdb hb)
                      rw [HTT.out] at x6
                      go_upto_region 17 with (go_at_call 24; refine (hm1 _ HS4.out).mono ?_; rintro e w5 ⟨rfl, rfl⟩; have HS5 := Lib.hid (HS4.out.set i v))
                      go_wp2_with (go_at_call 24; refine (hm2 _ HS5.out).mono ?_; rintro e w6 ⟨rfl, rfl⟩)
                      exact ⟨rfl, HP.out _ HS5.out.2.2.2.2.1 HF.out⟩
                    | some h3 =>
                      rw [hme2] at hm2 HQ2
                      simp only at hm2
                      obtain rfl := meetL_some hme2
                      clear hme2
                      go_upto_region 16 with (go_at_call 25; refine (hin2 _ HC4.out).mono ?_; rintro e w4 ⟨hb, rfl⟩; have HS4 := Lib.hid (HS2.out.bel hb); obtain ⟨_, hd2, hd3, hd4, hdb, _⟩ := HS4.out; have p5 := hd2.cell 0; have p7 := hd4.cell 0; have z7 := hd4.lt; have z5' := hd2.lt; have zg := hd3.lt; simp only [List.getElem?_toArray, List.getElem?_cons_zero] at p5 p7; have x6 := ((show Blk ((wr.alloc (.cells #[.int .i64 x.op, .int .i64 x.p, .int .i64 x.sign, .int .i64 x.kind, .int .i64 x.n, .string x.s, .int .i64 x.tt] 36))).drew wr.heap.size 36 #[.int .i64 x.op, .int .i64 x.p, .int .i64 x.sign, .int .i64 x.kind, .int .i64 x.n, .string x.s, .int .i64 x.tt] from Blk.new wr 36 #[.int .i64 x.op, .int .i64 x.p, .int .i64 x.sign, .int .i64 x.kind, .int .i64 x.n, .string x.s, .int .i64 x.tt]).bel hb (by simp)).cell 6; simp only [List.getElem?_toArray, List.getElem?_cons_zero, List.getElem?_cons_succ] at x6; have xw := ((show Blk ((wr.alloc (.cells #[.int .i64 x.op, .int .i64 x.p, .int .i64 x.sign, .int .i64 x.kind, .int .i64 x.n, .string x.s, .int .i64 x.tt] 36))).drew wr.heap.size 36 #[.int .i64 x.op, .int .i64 x.p, .int .i64 x.sign, .int .i64 x.kind, .int .i64 x.n, .string x.s, .int .i64 x.tt] from Blk.new wr 36 #[.int .i64 x.op, .int .i64 x.p, .int .i64 x.sign, .int .i64 x.kind, .int .i64 x.n, .string x.s, .int .i64 x.tt]).bel hb (by simp)).lt; clear hd2 hd3 hd4 hdb hb)
                      rw [HTT.out] at x6
                      go_upto_region 17 with (go_at_call 24; refine (hm1 _ HS4.out).mono ?_; rintro e w5 ⟨rfl, rfl⟩; have HS5 := Lib.hid (HS4.out.set i v))
                      have HS6 := Lib.hid (HS5.out.set (k + 1) (v - 1))
                      go_wp2_with (go_at_call 24; refine (hm2 _ HS5.out).mono ?_; rintro e w6 ⟨rfl, rfl⟩)
                      go_roundw
                      case rel => exact ⟨k + 1, K + 1, _, by omega, HK2, by go_num, by simp [HN.out], Lib.hid (((HB.out.mono).set i v (by omega) (by omega)).set (k + 1) (v - 1) (by omega) (by omega)), Lib.hid (by have := HQ2.out; exact this), HS6⟩
                      case measure => simp [intOf]; have := HL.out; omega
                · clear hi
                  have hd0 : 0 ≤ d := by omega
                  have hd1 : d ≤ 1 := by omega
                  rw [if_neg (by omega)] at HQ2
                  have hm2 : ∀ wz, HS w wz #[.slice A1 cd.ps.length c1, .slice A2 cd.gs.length c2, .slice A3 cd.ss.length c3, .slice (some ⟨b4, o4, none⟩) cd.is.length c4] a w1.heap.size n hs → Calls Try.prog 24 #[.int .i64 ((K : Int) + 1), .int .i64 (v + d), .pointer (some ⟨w1.heap.size + 1, 0, none⟩), .pointer (some ⟨w.heap.size + 1, 0, none⟩)] wz (MeetP hs (k + 1) (v + d) w1.heap.size wz) := fun wz hz => by
                    have := meet_any w1.heap.size (w1.heap.size + 1) (w.heap.size + 1) a (k + 1) (n + 1) (v + d) hs wz hz.2.2.1 hz.2.2.2.1 hz.2.1 HN.out (by omega) (by omega)
                    rw [hK2] at this; exact this
                  unfold MeetP at hm2
                  unfold finM at HQ2
                  simp only at HQ2
                  have hdn : ¬ d < 0 := by omega
                  clear hK2 hK1 hd01
                  cases hme2 : meetL hs (k + 1) (v + d) with
                  | none =>
                    rw [hme2] at hm2 HQ2
                    simp only at hm2
                    have HF := Lib.hid (show filterOK cd p (a : Int) = false from HQ2.out)
                    clear hme2 HQ2
                    go_upto_region 17 with (go_at_call 25; refine (hin2 _ HC4.out).mono ?_; rintro e w4 ⟨hb, rfl⟩; have HS4 := Lib.hid (HS2.out.bel hb); have hsz4 := HS4.out.2.2.1.lt; clear hb)
                    go_wp2_with (go_at_call 24; refine (hm2 _ HS4.out).mono ?_; rintro e w6 ⟨rfl, rfl⟩)
                    exact ⟨rfl, HP.out _ HS4.out.2.2.2.2.1 HF.out⟩
                  | some h3 =>
                    rw [hme2] at hm2 HQ2
                    simp only at hm2
                    obtain rfl := meetL_some hme2
                    clear hme2
                    go_upto_region 17 with (go_at_call 25; refine (hin2 _ HC4.out).mono ?_; rintro e w4 ⟨hb, rfl⟩; have HS4 := Lib.hid (HS2.out.bel hb); have hsz4 := HS4.out.2.2.1.lt; clear hb)
                    have HS6 := Lib.hid (HS4.out.set (k + 1) (v + d))
                    go_wp2_with (go_at_call 24; refine (hm2 _ HS4.out).mono ?_; rintro e w6 ⟨rfl, rfl⟩)
                    go_roundw
                    case rel => exact ⟨k + 1, K + 1, _, by omega, HK2, by go_num, by simp [HN.out], Lib.hid ((HB.out.mono).set (k + 1) (v + d) (by omega) (by omega)), Lib.hid (by have := HQ2.out; exact this), HS6⟩
                    case measure => simp [intOf]; have := HL.out; omega
          · have hkl : ¬ (K : Int) < (L : Int) := by omega
            obtain rfl : k = n := by have := HK.out; have := HL.out; omega
            have HF := Lib.hid (HQ.out.trans (run_end cd p a k hs v hv))
            have pg : wr.cell? ⟨w1.heap.size, k, none⟩ = some (.int .i64 v) := (hb3.cell k).trans (ints_get _ k v hv)
            have hLK : L = K := by omega
            have HE := Lib.hid hbe
            clear HQ HV hv HN hb1 hb2 hb3 hb4 hbe fg hLK
            by_cases hv1 : v = 1
            · subst hv1
              go_wp2_with (go_at_call 12; refine (need_any _ _).mono ?_; rintro e w2 ⟨he, rfl⟩; obtain rfl := (show _ = _ by first | exact np_t he | exact np_f he))
              go_end0
              exact HT.out _ HE.out (by rw [HF.out]; rfl)
            · have hd1 : (v == 1) = false := beq_eq_false_iff_ne.2 hv1
              go_wp2_with (go_at_call 12; refine (need_any _ _).mono ?_; rintro e w2 ⟨he, rfl⟩; obtain rfl := (show _ = _ by first | exact np_t he | exact np_f he))
              exact ⟨rfl, HP.out _ HE.out (by rw [HF.out]; exact decide_eq_false hv1)⟩

end Go.Proofs.Ytpcbcodmocmilaa
