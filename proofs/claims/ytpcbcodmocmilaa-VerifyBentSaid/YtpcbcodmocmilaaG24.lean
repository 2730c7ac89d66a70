/- G24: Cm, Cn joined. -/
import Derived.Test.YtpcbcodmocmilaaG23
import Derived.Test.YtpcbcodmocmilaaCa
import Derived.Test.YtpcbcodmocmilaaG06
namespace Go.Proofs.Ytpcbcodmocmilaa
open Go.RowKit
/- ref19: Make (printed by gen_cm.py). -/
section
open Go.RowKit

/-- A slice's array: made behind w, none of certain blocks. -/
def Nn (w : World) (ex : List Nat) (A : Option Addr) : Prop := ∀ a, A = some a → w.heap.size ≤ a.block ∧ a.spot = none ∧ a.block ∉ ex
theorem Nn.none (w : World) (ex : List Nat) : Nn w ex none := fun a e => by cases e
theorem Nn.o {w w1 : World} {ex : List Nat} {A A' : Option Addr} (h : Nn w ex A) (hf : FrO w1 A A') (hw : w.heap.size ≤ w1.heap.size) (hex : ∀ b ∈ ex, b < w1.heap.size) : Nn w ex A' := fun a e => by
  rcases hf a e with ⟨h1, h2⟩ | h1
  · exact ⟨Nat.le_trans hw h1, h2, fun h => Nat.lt_irrefl _ (Nat.lt_of_lt_of_le (hex _ h) h1)⟩
  · exact h a h1
structure Nn5 (w : World) (ex : List Nat) (A1 A2 A3 A4 A5 : Option Addr) : Prop where
  h1 : Nn w ex A1
  h2 : Nn w ex A2
  h3 : Nn w ex A3
  h4 : Nn w ex A4
  h5 : Nn w ex A5
section
variable {X : List Nat} {w0 w w' : World} {L : List BlkE} {rs : List RowE} {J : World → Prop} {A1 A2 A3 A4 A5 B1 B2 B3 B4 B5 : Option Addr} {c : CodeD} {W : List (PathT × Value)}
theorem Nn5.o {w1 : World} {ex : List Nat} (h : Nn5 w0 ex A1 A2 A3 A4 A5) (hf : FrO w1 A1 B1 ∧ FrO w1 A2 B2 ∧ FrO w1 A3 B3 ∧ FrO w1 A4 B4 ∧ FrO w1 A5 B5) (hw : w0.heap.size ≤ w1.heap.size) (hex : ∀ b ∈ ex, b < w1.heap.size) : Nn5 w0 ex B1 B2 B3 B4 B5 :=
  ⟨h.h1.o hf.1 hw hex, h.h2.o hf.2.1 hw hex, h.h3.o hf.2.2.1 hw hex, h.h4.o hf.2.2.2.1 hw hex, h.h5.o hf.2.2.2.2 hw hex⟩
theorem Own.addM (M : Own X w0 w L rs J) (hb : Bel w.heap.size w w') (h : MRd w' c W A1 A2 A3 A4 A5) (hn : Nn5 w0 (exO L rs) A1 A2 A3 A4 A5) : Own X w0 w' L rs (fun y => J y ∧ MRd y c W A1 A2 A3 A4 A5) :=
  (M.bel hb).add fun _ hy => ⟨h.p.kept hy fun a e _ hm => (hn.h1 a e).2.2 hm, h.g.kept hy fun a e _ hm => (hn.h2 a e).2.2 hm, h.s.kept hy fun a e _ hm => (hn.h3 a e).2.2 hm, h.i.kept hy fun a e _ hm => (hn.h4 a e).2.2 hm, h.w.kept hy fun a e _ hm => (hn.h5 a e).2.2 hm⟩
end
theorem Own.swap {X : List Nat} {w0 w : World} {x z : BlkE} {L : List BlkE} {rs : List RowE} {J : World → Prop} (M : Own X w0 w (x :: z :: L) rs J) : Own X w0 w (z :: x :: L) rs J := by
  have hp : (exO (x :: z :: L) rs).Perm (exO (z :: x :: L) rs) := by
    unfold exO
    simp only [List.map_cons, List.cons_append]
    exact List.Perm.swap _ _ _
  have hm : ∀ a, a ∈ z :: x :: L → a ∈ x :: z :: L := fun a h => (List.Perm.swap x z L).mem_iff.1 h
  exact ⟨M.os, M.output, M.size, M.out, fun a h => M.low a (hm a h), fun a h => M.blk a (hm a h), M.row, hp.nodup_iff.1 M.nodup, fun y hy => M.always y ⟨hy.1, fun b h1 h2 => hy.2 b h1 fun h => h2 (hp.mem_iff.2 h)⟩⟩
theorem rdd0 (y : World) (k : Nat) (A : Option Addr) : Rdd y k A 0 [] := ⟨by simp, fun h => absurd h (by omega)⟩
/-- What Make tells. -/
def RMakeP (c : CodeD) (w : World) (e : Ending) (w' : World) : Prop :=
  ∃ (A1 A2 A3 A4 : Option Addr) (k1 k2 k3 k4 : Nat), e = .returned (.agg #[.slice A1 c.ps.length k1, .slice A2 c.gs.length k2, .slice A3 c.ss.length k3, .slice A4 c.is.length k4]) ∧
    (∃ W A5, MRd w' c W A1 A2 A3 A4 A5) ∧ (FrA w A1 ∧ FrA w A2 ∧ FrA w A3 ∧ FrA w A4) ∧ (c.gs.length ≤ k2 ∧ c.ss.length ≤ k3) ∧ Bel w.heap.size w w'
theorem Nn.fr {w : World} {ex : List Nat} {A : Option Addr} (h : Nn w ex A) : FrA w A := fun a e => ⟨(h a e).1, (h a e).2.1⟩
section
variable {S : List UInt8 → Prop} {n : Nat}
theorem wt_len (l : List PathT) : l.length ≤ (l.map (wtP (wtN n))).sum := len_le_sum _ _ fun x _ => by unfold wtP; omega
end

theorem make_step {S : List UInt8 → Prop} {c : CodeD} {W Wn : List (PathT × Value)} {z : PathT × Value} {r : List PathT} {p : PathT} (h1 : Wn.map (·.1) = flW 200 (selsOf z.1.segs)) (hd : (W.map (·.1)).drop c.ps.length = z.1 :: r) (h : makeL 200 (5000 - c.ps.length) c ((W.map (·.1)).drop c.ps.length) = codeT p ∧ c.ps.length ≤ W.length ∧ szC c + (((W.map (·.1)).drop c.ps.length).map (wtP (wtN 200))).sum ≤ 5000) (hwf : WfP S (WfN S 200) z.1) :
    makeL 200 (5000 - (layP 200 W.length c z.1).ps.length) (layP 200 W.length c z.1) (((W ++ Wn).map (·.1)).drop (layP 200 W.length c z.1).ps.length) = codeT p ∧ (layP 200 W.length c z.1).ps.length ≤ (W ++ Wn).length ∧ szC (layP 200 W.length c z.1) + ((((W ++ Wn).map (·.1)).drop (layP 200 W.length c z.1).ps.length).map (wtP (wtN 200))).sum ≤ 5000 := by
  obtain ⟨h2, h3, h4⟩ := h
  have h5 : (layP 200 W.length c z.1).ps.length = c.ps.length + 1 := by simp [layP]
  have hl : W.length = c.ps.length + 1 + r.length := by
    have := congrArg List.length hd
    simp at this; omega
  have h6 : ((W ++ Wn).map (·.1)).drop (c.ps.length + 1) = r ++ flW 200 (selsOf z.1.segs) := by
    rw [List.map_append, h1, List.drop_append_of_le_length (by rw [List.length_map]; omega), ← List.drop_drop, hd]; rfl
  have h7 := lay_size c z.1 W.length hwf
  have h8 : 1 ≤ wtP (wtN 200) z.1 := by unfold wtP; omega
  have h9 : c.ps.length ≤ szC c := by unfold szC; omega
  rw [hd, List.map_cons, List.sum_cons] at h4
  rw [hd, show 5000 - c.ps.length = (5000 - (c.ps.length + 1)) + 1 by omega, makeL, ← hl] at h2
  rw [h5, h6]
  refine ⟨h2, by rw [List.length_append]; omega, ?_⟩
  rw [List.map_append, List.sum_append]
  omega

set_option maxRecDepth 100000 in
set_option maxHeartbeats 2000000 in
theorem rmake_any (S : List UInt8 → Prop) (p : PathT) (v : Value) (w : World) (hz : TreeV w (p, v)) (hwf : WfP S (WfN S 200) p) (hwt : wtP (wtN 200) p ≤ 5000) : Calls Try.prog 10 #[.agg #[.bool p.abs, v]] w (RMakeP (codeT p) w) := by
  have M := Lib.hid (Own.start [] w (fun _ => True) fun _ _ => trivial)
  have h1v := hz.one
  have HZ := Lib.hid hz
  have HWP := Lib.hid hwf
  have HWT := Lib.hid hwt
  clear hz hwf hwt
  obtain ⟨Ap, cp, mp, hv, _⟩ := HZ.out
  simp only at hv
  have HV := Lib.hid hv
  clear hv h1v
  have h1v : (v : Value).oneCell' = true := by rw [HV.out]; rfl
  have HV1 := Lib.hid h1v
  go_enter Try.func10, Try.ntmps10
  generalize hQ : bodyPost Try.prog Try.f10 _ = Q
  have HQ := Lib.hid hQ; clear hQ
  let qd := bodyPost Try.prog Try.f10 (fun _ _ => True)
  go_upto_region 2 with (first | ((with_reducible refine g_bx 49 1 ?_); refine l_bx rfl M.out ?_; clear M; intro g1 w' hg1 M; replace M := Lib.hid M.out.freeze) | ((with_reducible refine g_al 29 2 ?_); refine l_al F_Code M.out ?_; clear M; intro g2 w' hg2 M) | ((with_reducible refine g_ld 68 ?_); refine l_ld1 O_sPath rfl M.out (by repeat constructor) (by exact rfl) ?_) | ((with_reducible refine g_ld 49 ?_); refine l_ldj F_Path rfl M.out (fun y h => h.2) (by exact rfl) ?_) | ((with_reducible refine g_bs 68 6 ?_); refine l_bs SL_sPath (cs := #[.bool p.abs, v]) (by kernel_rfl) M.out ?_; clear M; intro g6 w' hg6 M) | ((with_reducible refine g_al 70 3 ?_); refine l_al F_M M.out ?_; clear M; intro g3 w' hg3 M) | ((with_reducible refine g_st 70 ?_); refine l_st F_M rfl rfl M.out (by repeat constructor) (by exact rfl) (by exact rfl) (by exact rfl) ?_; clear M; intro w' M))
  have HNE := Lib.hid (show g6 ∉ [g3, g2] from by
    have h := M.out.nodup
    unfold exO at h
    simp only [List.map_cons, List.map_nil, List.filterMap_nil, List.append_nil, List.nodup_cons, List.mem_cons, List.not_mem_nil, or_false, not_or] at h
    intro hm
    simp only [List.mem_cons, List.not_mem_nil, or_false] at hm
    rcases hm with hm | hm
    · exact h.1.1 hm.symm
    · exact h.2.1 hm)
  replace M := Lib.hid M.out.swap.freeze
  have HN0 := Lib.hid (show Nn5 w [g3, g2] none none none none (some ⟨g6, 0, none⟩) from ⟨Nn.none _ _, Nn.none _ _, Nn.none _ _, Nn.none _ _, fun a e => by
    cases e
    exact ⟨hg6, rfl, HNE.out⟩⟩)
  go_wp2
  go_loopg [4] 5000 (fun gk iv wr => ∃ (c : CodeD) (W : List (PathT × Value)) (A1 A2 A3 A4 A5 : Option Addr) (k1 k2 k3 k4 k5 : Nat), gk = 5000 - c.ps.length ∧ iv = .int .i64 (c.ps.length : Nat) ∧ Hid (makeL 200 (5000 - c.ps.length) c ((W.map (·.1)).drop c.ps.length) = codeT p ∧ c.ps.length ≤ W.length ∧ szC c + (((W.map (·.1)).drop c.ps.length).map (wtP (wtN 200))).sum ≤ 5000) ∧ Hid (∀ z ∈ W, TreeV w z ∧ WfP S (WfN S 200) z.1) ∧ Hid (Nn5 w [g3, g2] A1 A2 A3 A4 A5) ∧ Hid (c.gs.length ≤ k2 ∧ c.ss.length ≤ k3) ∧ Hid (Own [] w wr [(g3, 70, #[.slice A1 c.ps.length k1, .slice A2 c.gs.length k2, .slice A3 c.ss.length k3, .slice A4 c.is.length k4, .slice A5 W.length k5]), (g2, 29, #[.slice none 0 0, .slice none 0 0, .slice none 0 0, .slice none 0 0])] [] (fun y => MRd y c W A1 A2 A3 A4 A5)))
  case atStart => exact ⟨code0, [(p, v)], none, none, none, none, some ⟨g6, 0, none⟩, 0, 0, 0, 0, 1, rfl, rfl, Lib.hid ⟨rfl, Nat.zero_le _, by simpa [code0, szC] using HWT.out⟩, Lib.hid (fun z hz => by rw [List.mem_singleton.1 hz]; exact ⟨HZ.out, HWP.out⟩), HN0, Lib.hid ⟨Nat.le_refl _, Nat.le_refl _⟩, Lib.hid (M.out.imp fun y h => ⟨rdd0 _ _ _, rdd0 _ _ _, rdd0 _ _ _, rdd0 _ _ _, reads_blk h.2 rfl⟩)⟩
  case round =>
    clear M HN0
    obtain ⟨c, W, A1, A2, A3, A4, A5, k1, k2, k3, k4, k5, hgk, rfl, HINV, HTW, HNN, HQ0, M⟩ := hrel
    have HGK := Lib.hid hgk
    cases hdr : (W.map (·.1)).drop c.ps.length with
    | cons q r =>
      have hlt : c.ps.length < W.length := by
        rcases Nat.lt_or_ge c.ps.length W.length with h | h
        · exact h
        · rw [List.drop_eq_nil_of_le (by rw [List.length_map]; exact h)] at hdr; cases hdr
      obtain ⟨z, hz⟩ : ∃ z, W[c.ps.length]? = some z := ⟨_, List.getElem?_eq_getElem hlt⟩
      have hqz : q = z.1 := by
        have h1 := congrArg (fun l => l[0]?) hdr
        simp only [List.getElem?_drop, Nat.add_zero, List.getElem?_map, hz, List.getElem?_cons_zero, Option.map_some] at h1
        exact (Option.some.inj h1).symm
      subst hqz
      have HDR := Lib.hid hdr
      have HZI := Lib.hid hz
      have HWF := Lib.hid (HTW.out z (List.mem_of_getElem? hz)).2
      have hsz := HINV.out.2.2
      rw [HDR.out, List.map_cons, List.sum_cons] at hsz
      have hw1 : 1 ≤ wtP (wtN 200) z.1 := by unfold wtP; omega
      have hps : c.ps.length ≤ szC c := by unfold szC; omega
      have hWl : W.length ≤ 5000 := by
        have h1 := wt_len (n := 200) r
        have h2 := congrArg List.length HDR.out
        rw [List.length_drop, List.length_map, List.length_cons] at h2
        omega
      have hlay : (layP 200 W.length c z.1).ps.length = c.ps.length + 1 := by simp [layP]
      have hlt5 : (c.ps.length : Int) < 5000 := by omega
      have hltI : (c.ps.length : Int) < (W.length : Int) := by omega
      obtain ⟨ad, hA5, hbl, hcel⟩ := M.out.now.w.2 (by omega)
      obtain ⟨b5, o5, sp5⟩ := ad
      obtain rfl : sp5 = none := (HNN.out.h5 _ hA5).2.1
      subst hA5
      have HRA := Lib.hid (show ∀ y : World, MRd y c W A1 A2 A3 A4 (some ⟨b5, o5, none⟩) → y.rangeAt b5 (o5 + c.ps.length * 2) (wC z) from fun y h j u hu => by
        obtain ⟨ad, e, _, hc⟩ := h.w.2 (by omega)
        cases e
        have hj : j < 2 := (List.getElem?_eq_some_iff.1 hu).1
        have := hc (c.ps.length * 2 + j) u (by rw [flat_get wC 2 (fun _ => rfl) W c.ps.length j hj, HZI.out]; exact hu)
        rw [add_lit, ← Nat.add_assoc] at this
        exact this)
      have HPC := Lib.hid (fun (wz : World) (hb : Bel w.heap.size w wz) (hm : MRd wz c W A1 A2 A3 A4 (some ⟨b5, o5, none⟩)) => rpath_tree (S := S) (n := 200) z (HTW.out z (List.mem_of_getElem? HZI.out)).1 HWF.out c W (fun y hy => (HTW.out y hy).1) wz hb A1 A2 A3 A4 (some ⟨b5, o5, none⟩) k1 k2 k3 k4 k5 hm HQ0.out.1 (by omega) (by omega) (by omega))
      clear hbl hcel hz hdr
      go_upto_region 5 with (first | ((with_reducible refine g_ld 68 ?_); refine l_ld1 O_sPath rfl M.out (by repeat constructor) (by exact rfl) ?_) | ((with_reducible refine g_ldg 68 ?_); refine l_ld1g O_sPath rfl rfl M.out (by repeat constructor) (by exact rfl) ?_))
      replace M := Lib.hid M.out.drew
      refine tb (fun y => MRd y c W A1 A2 A3 A4 (some ⟨b5, o5, none⟩)) M.out.now ?_
      refine tkp 1 rfl M.out.now ?_
      refine tkp 3 rfl M.out.now ?_
      refine tr [0, 2] ?_
      refine r_ld F_M (i := 0) rfl rfl M.out (by repeat constructor) (by exact rfl) ?_ ?_
      · refine ⟨M.out.now, tn ?_⟩
        refine tr [2] ?_
        refine r_ld1 O_sPath (i := 2) rfl rfl M.out (by repeat constructor) (by exact rfl) ?_ ?_
        · refine ⟨M.out.now, tn ?_⟩
          refine tkp 4 rfl M.out.now ?_
          refine tk 5 rfl M.out.now (y_ldf F_Path _ _ _ rfl [.bool z.1.abs, z.2] (fun y h => HRA.out y h) rfl) ?_
          refine tr [6] ?_
          refine rdy_call (HPC.out _ M.out.bel0 M.out.now) (i := 6) (op := .call _) rfl (by go_simp) ?_ ?_
          · rintro e_ w' ⟨c', Wn, B1, B2, B3, B4, B5, j1, j2, j3, j4, j5, hc', rfl, hm, hW1, hW2, hf, hq, hb⟩; have hn := HNN.out.o hf M.out.bel0.size (fun b hb => M.out.ex_lt hb); have Mn := M.out.addM hb hm hn; have HC := Lib.hid hc'; have HWN := Lib.hid (And.intro hW1 hW2); have HNB := Lib.hid hn; have HQQ := Lib.hid hq; replace M := Lib.hid Mn; clear Mn hb hm hn hc' hW1 hW2 hf hq; refine ⟨_, rfl, ?_⟩; refine ⟨M.out.now.1, tn ?_⟩
            refine tr [7] ?_
            refine r_st F_M (i := 7) rfl rfl rfl M.out (by repeat constructor) (by exact rfl) (by exact rfl) (by exact rfl) ?_ ?_
            · clear M; intro w' M; refine ⟨M.out.now.1, tn ?_⟩
              refine te ?_
              go_wp2
              go_roundg (5000 - c'.ps.length)
              case measure => rw [HC.out, hlay]; omega
              case rel => exact ⟨c', W ++ Wn, B1, B2, B3, B4, B5, j1, j2, j3, j4, j5, rfl, by rw [HC.out, hlay]; first | go_num | simp, Lib.hid (by rw [HC.out]; exact make_step HWN.out.1 HDR.out HINV.out HWF.out), Lib.hid (fun y hy => (List.mem_append.1 hy).elim (HTW.out y) fun hy => ⟨HWN.out.2 y hy, flW_mem (sels_wf HWF.out) (by rw [← HWN.out.1]; exact List.mem_map.2 ⟨y, hy, rfl⟩)⟩), HNB, HQQ, Lib.hid (M.out.imp fun y h => h.2)⟩
            exact .nil
          exact .nil
        exact .nil
      refine r_ld1 O_sPath (i := 2) rfl rfl M.out (by repeat constructor) (by exact rfl) ?_ ?_
      · refine ⟨M.out.now, tn ?_⟩
        refine tkp 4 rfl M.out.now ?_
        refine tk 5 rfl M.out.now (y_ldf F_Path _ _ _ rfl [.bool z.1.abs, z.2] (fun y h => HRA.out y h) rfl) ?_
        refine tr [0] ?_
        refine r_ld F_M (i := 0) rfl rfl M.out (by repeat constructor) (by exact rfl) ?_ ?_
        · refine ⟨M.out.now, tn ?_⟩
          refine tr [6] ?_
          refine rdy_call (HPC.out _ M.out.bel0 M.out.now) (i := 6) (op := .call _) rfl (by go_simp) ?_ ?_
          · rintro e_ w' ⟨c', Wn, B1, B2, B3, B4, B5, j1, j2, j3, j4, j5, hc', rfl, hm, hW1, hW2, hf, hq, hb⟩; have hn := HNN.out.o hf M.out.bel0.size (fun b hb => M.out.ex_lt hb); have Mn := M.out.addM hb hm hn; have HC := Lib.hid hc'; have HWN := Lib.hid (And.intro hW1 hW2); have HNB := Lib.hid hn; have HQQ := Lib.hid hq; replace M := Lib.hid Mn; clear Mn hb hm hn hc' hW1 hW2 hf hq; refine ⟨_, rfl, ?_⟩; refine ⟨M.out.now.1, tn ?_⟩
            refine tr [7] ?_
            refine r_st F_M (i := 7) rfl rfl rfl M.out (by repeat constructor) (by exact rfl) (by exact rfl) (by exact rfl) ?_ ?_
            · clear M; intro w' M; refine ⟨M.out.now.1, tn ?_⟩
              refine te ?_
              go_wp2
              go_roundg (5000 - c'.ps.length)
              case measure => rw [HC.out, hlay]; omega
              case rel => exact ⟨c', W ++ Wn, B1, B2, B3, B4, B5, j1, j2, j3, j4, j5, rfl, by rw [HC.out, hlay]; first | go_num | simp, Lib.hid (by rw [HC.out]; exact make_step HWN.out.1 HDR.out HINV.out HWF.out), Lib.hid (fun y hy => (List.mem_append.1 hy).elim (HTW.out y) fun hy => ⟨HWN.out.2 y hy, flW_mem (sels_wf HWF.out) (by rw [← HWN.out.1]; exact List.mem_map.2 ⟨y, hy, rfl⟩)⟩), HNB, HQQ, Lib.hid (M.out.imp fun y h => h.2)⟩
            exact .nil
          exact .nil
        exact .nil
      exact .nil
    | nil =>
      have hWc : W.length = c.ps.length := by
        have := congrArg List.length hdr
        rw [List.length_drop, List.length_map, List.length_nil] at this
        have := HINV.out.2.1
        omega
      have HCO := Lib.hid (show codeT p = c from by
        rw [← HINV.out.1, hdr]
        cases 5000 - c.ps.length <;> rfl)
      have hnlt : ¬ (c.ps.length : Int) < (W.length : Int) := by omega
      clear hdr
      by_cases h5 : (c.ps.length : Int) < 5000
      all_goals
        go_wp2_with (first | ((with_reducible refine g_ld 68 ?_); refine l_ld1 O_sPath rfl M.out (by repeat constructor) (by exact rfl) ?_) | ((with_reducible refine g_ldg 68 ?_); refine l_ld1g O_sPath rfl rfl M.out (by repeat constructor) (by exact rfl) ?_) | ((with_reducible refine g_ld 29 ?_); refine l_ldm F_Code rfl M.out (by repeat constructor) (by exact rfl) (by exact rfl) ?_) | ((with_reducible refine g_st 29 ?_); refine l_st F_Code rfl rfl M.out (by repeat constructor) (by exact rfl) (by exact rfl) (by exact rfl) ?_; clear M; intro w' M))
        rw [← HQ.out]
        refine bodyPost_ret (results_1 Try.results10 _ _ g2 _ _ rfl (M.out.blk (g2, _, _) (by repeat constructor)) F_Code rfl) rfl ?_
        rw [HCO.out]
        exact ⟨A1, A2, A3, A4, k1, k2, k3, k4, rfl, ⟨W, A5, M.out.now⟩, ⟨HNN.out.h1.fr, HNN.out.h2.fr, HNN.out.h3.fr, HNN.out.h4.fr⟩, HQ0.out, M.out.bel0⟩


end
/- Tokens of a text: numbers within bounds, as many as bytes at most; a query's shape (plain; no word of a dump). -/
section

theorem capI_bd2 {a : Int} (h : 0 ≤ a ∧ a ≤ 9007199254740992) {c : UInt8} (hc : 48 ≤ (c.toNat : Int)) : 0 ≤ capI a c ∧ capI a c ≤ 9007199254740992 := by
  unfold capI; omega
theorem numV_bd2 : ∀ (l : List UInt8) (a : Int), 0 ≤ a ∧ a ≤ 9007199254740992 → (∀ c ∈ l, isDig c = true) → 0 ≤ l.foldl capI a ∧ l.foldl capI a ≤ 9007199254740992
  | [], _, h, _ => h
  | c :: r, a, h, hd => numV_bd2 r _ (capI_bd2 h (by
      have := hd c (by simp)
      unfold isDig at this
      simp at this
      first | omega | (have h2 := this.1; exact_mod_cast (UInt8.le_iff_toNat_le.1 h2)))) fun x hx => hd x (by simp [hx])
theorem dig_take : ∀ (l : List UInt8), ∀ c ∈ l.take (digN l), isDig c = true
  | [], c, h => by simp at h
  | x :: r, c, h => by
    rw [digN] at h
    split at h
    · rw [List.take_succ_cons] at h
      rcases List.mem_cons.1 h with rfl | h
      · assumption
      · exact dig_take r c h
    · simp at h
theorem numT_n {l : List UInt8} {v : Int} {n : Nat} (h : numT l = .ok (v, n)) : okN v := by
  unfold numT at h
  obtain ⟨_, h2, h3, _⟩ := num_aux _ _ _ _ _ _ h
  subst h3
  cases hm : hd l 45
  · rw [hm] at h2
    simp only [Bool.false_eq_true, if_false, List.drop_zero] at h2 ⊢
    have := numV_bd2 (l.take (digN l)) 0 (by omega) (dig_take l)
    unfold okN numV at *
    omega
  · rw [hm] at h2
    simp only [if_true] at h2 ⊢
    have := numV_bd2 ((l.drop 1).take (digN (l.drop 1))) 0 (by omega) (dig_take _)
    unfold okN numV at *
    omega
theorem tokT_n {l : List UInt8} {k : Int} {t : List UInt8} {v : Int} {n : Nat} (h : tokT l = .ok (k, t, v, n)) : okN v := by
  have h0 : okN 0 := by unfold okN; omega
  unfold tokT at h
  cases l with
  | nil => cases h
  | cons c r =>
    simp only at h
    split at h
    · cases ht : txtF (r.length + 1) c r with
      | none => rw [ht] at h; cases h
      | some tn =>
        rw [ht] at h
        simp only [Except.ok.injEq, Prod.mk.injEq] at h
        rw [← h.2.2.1]; exact h0
    · split at h
      · cases hn : numT (c :: r) with
        | error e => rw [hn] at h; cases h
        | ok vn =>
          obtain ⟨v', m⟩ := vn
          rw [hn] at h
          simp only [Except.ok.injEq, Prod.mk.injEq] at h
          rw [← h.2.2.1]; exact numT_n hn
      · split at h
        · simp only [Except.ok.injEq, Prod.mk.injEq] at h
          rw [← h.2.2.1]; exact h0
        · cases hs : signsL.find? (fun x => (c :: r).take x.length == x) with
          | none => rw [hs] at h; cases h
          | some x =>
            rw [hs] at h
            simp only [Except.ok.injEq, Prod.mk.injEq] at h
            rw [← h.2.2.1]; exact h0
theorem lexF_tk : ∀ (f a : Nat) (u : List UInt8) (r : List TokD), lexF f a u = .ok r → (∀ x ∈ r, okN x.n) ∧ r.length ≤ u.length
  | 0, a, u, r, h => by
    rw [lexF] at h
    cases h
    exact ⟨fun x hx => by simp at hx, Nat.zero_le _⟩
  | f + 1, a, u, r, h => by
    rw [lexF] at h
    split at h
    · cases h; exact ⟨fun x hx => by simp at hx, Nat.zero_le _⟩
    · split at h
      · cases h
      · cases ht : tokT (u.drop (bkN u)) with
        | error e => rw [ht] at h; cases h
        | ok q =>
          obtain ⟨k, t, v, n⟩ := q
          rw [ht] at h
          simp only at h
          have h1 := tokT_ok _ _ _ _ _ ht
          unfold tokOK at h1
          cases hl : lexF f (a + bkN u + n) ((u.drop (bkN u)).drop n) with
          | error e => rw [hl] at h; cases h
          | ok r2 =>
            rw [hl] at h
            simp only [Except.ok.injEq] at h
            obtain ⟨h2, h3⟩ := lexF_tk f _ _ r2 hl
            subst h
            refine ⟨fun x hx => ?_, ?_⟩
            · rcases List.mem_cons.1 hx with rfl | hx
              · exact tokT_n ht
              · exact h2 x hx
            · have h4 := h1.1
              have h5 := h1.2.1
              rw [List.length_drop, List.length_drop] at h3
              rw [List.length_drop] at h5
              rw [List.length_cons]; omega
theorem stOf_tk (l : List UInt8) : (∀ x ∈ (stOf l).toks, okN x.n) ∧ (stOf l).toks.length ≤ l.length := by
  unfold stOf
  cases h : lexL l with
  | error e => exact ⟨fun x hx => by simp at hx, Nat.zero_le _⟩
  | ok r =>
    simp only
    unfold lexL at h
    split at h
    · cases h
    · cases hf : lexF (l.length + 1) 0 l with
      | error e => rw [hf] at h; cases h
      | ok r2 =>
        rw [hf] at h
        cases r2 with
        | nil => cases h
        | cons x r3 =>
          simp only [Except.ok.injEq] at h
          subst h
          exact lexF_tk _ _ _ _ hf
/-- A query that is read: its shape, and how much it weighs. -/
theorem parse_wf {m : Bool} {l : List UInt8} {p : PathT} (h : parseT m l = .ok p) : WfP (fun _ => True) (WfN (fun _ => True) 200) p ∧ wtP (wtN 200) p ≤ 4 * l.length ∧ p.abs = true := by
  obtain ⟨h1, h2⟩ := stOf_tk l
  have := parse2_g (S := fun _ => True) (t := stOf l) (fun x hx => ⟨h1 x hx, fun _ => trivial⟩) h
  exact ⟨this.1, by omega, this.2.2⟩
theorem err_ne {m : Bool} {l : List UInt8} {x a : Int} (h : parseT m l = .error (x, a)) : x ≠ 0 := by
  unfold parseT parse2 at h
  generalize (if ovS (parse1 m (l.length : Nat) (stOf l)).2 then (parse1 m (l.length : Nat) (stOf l)).2 else formS (l.length : Nat) (parse1 m (l.length : Nat) (stOf l)).2) = X at h
  by_cases hc : X.fe = 0
  · rw [if_pos hc] at h; cases h
  · rw [if_neg hc] at h
    simp only [Except.error.injEq, Prod.mk.injEq] at h
    rw [← h.1]; exact hc

end

end Go.Proofs.Ytpcbcodmocmilaa
