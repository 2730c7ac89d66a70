/- code: path (printed by gen_zf.py). -/
import Derived.Test.YtpcbcodmocmilaaGreatDoorRG45
namespace Go.Proofs.YtpcbcodmocmilaaGreatDoor
open Go.RowKit

/-- A filter in memory. -/
def FltM (w0 : World) (n : Nat) (z : SelT × Option Addr) : Prop :=
  ∀ e, z.1.f = some e → ∃ b off kc W, z.2 = some ⟨b, off, none⟩ ∧ b < w0.heap.size ∧ kc.length = 17 ∧ w0.rangeAt b off kc ∧ W.map (·.1) = waitN n e ∧ (∀ u ∈ W, TreeV w0 u) ∧ KidM w0 n ⟨e, kc, W⟩
theorem ysD_app (a b : List SgD) : ysD (a ++ b) = ysD a ++ ysD b := by unfold ysD; rw [List.flatMap_append]
theorem sel_snoc2 (xs : List SelD) (s : SelD) : (xs ++ [s]).flatMap selC = xs.flatMap selC ++ selC s := by simp
theorem seg_snoc2 (xs : List SegD) (s : SegD) : (xs ++ [s]).flatMap segC = xs.flatMap segC ++ segC s := by simp
theorem path_snoc2 (xs : List PathD) (s : PathD) : (xs ++ [s]).flatMap pathC = xs.flatMap pathC ++ pathC s := by simp
section
variable {w0 : World} {L : List BlkE} {rs : List RowE} {J : World → Prop}
def MkA (A1 A2 A3 A4 A5 : Option Addr) (k1 k2 k3 k4 k5 : Nat) (ps : List PathD) (gs : List SegD) (ss : List SelD) (is : List InsD) (W : List (PathT × Value)) (rs : List RowE) : List RowE :=
  (.slice A1 ps.length k1, 53, 3, ps.length, ps.flatMap pathC) :: (.slice A2 gs.length k2, 55, 3, gs.length, gs.flatMap segC) :: (.slice A3 ss.length k3, 57, 8, ss.length, ss.flatMap selC) :: (.slice A4 is.length k4, 59, 7, is.length, is.flatMap insC) :: (.slice A5 W.length k5, 37, 2, W.length, W.flatMap wC) :: rs
theorem MkS.open_ {w : World} {g : Nat} {c : CodeD} {W : List (PathT × Value)} (h : MkS w0 w g L rs J c W) : ∃ A1 A2 A3 A4 A5 k1 k2 k3 k4 k5, Own [] w0 w ((g, 71, #[.slice A1 c.ps.length k1, .slice A2 c.gs.length k2, .slice A3 c.ss.length k3, .slice A4 c.is.length k4, .slice A5 W.length k5]) :: L) (MkA A1 A2 A3 A4 A5 k1 k2 k3 k4 k5 c.ps c.gs c.ss c.is W rs) J := by
  obtain ⟨v1, v2, v3, v4, v5, M⟩ := h
  unfold MkR at M
  obtain ⟨A1, k1, h1, _⟩ := own_reads (M.row (v1, _) (by repeat constructor))
  obtain ⟨A2, k2, h2, _⟩ := own_reads (M.row (v2, _) (by repeat constructor))
  obtain ⟨A3, k3, h3, _⟩ := own_reads (M.row (v3, _) (by repeat constructor))
  obtain ⟨A4, k4, h4, _⟩ := own_reads (M.row (v4, _) (by repeat constructor))
  obtain ⟨A5, k5, h5, _⟩ := own_reads (M.row (v5, _) (by repeat constructor))
  simp only at h1 h2 h3 h4 h5
  subst h1 h2 h3 h4 h5
  exact ⟨A1, A2, A3, A4, A5, k1, k2, k3, k4, k5, M⟩
theorem MkS.shut {w : World} {g : Nat} {A1 A2 A3 A4 A5 : Option Addr} {k1 k2 k3 k4 k5 : Nat} {ps : List PathD} {gs : List SegD} {ss : List SelD} {is : List InsD} {W : List (PathT × Value)} (h : Own [] w0 w ((g, 71, #[.slice A1 ps.length k1, .slice A2 gs.length k2, .slice A3 ss.length k3, .slice A4 is.length k4, .slice A5 W.length k5]) :: L) (MkA A1 A2 A3 A4 A5 k1 k2 k3 k4 k5 ps gs ss is W rs) J) : MkS w0 w g L rs J ⟨ps, gs, ss, is⟩ W := ⟨_, _, _, _, _, h⟩
theorem MkS.of {w : World} {g : Nat} {c : CodeD} {W : List (PathT × Value)} {v1 v2 v3 v4 v5 : Value} {rows : List RowE} (h : Own [] w0 w ((g, 71, #[v1, v2, v3, v4, v5]) :: L) rows J) (hr : rows = MkR v1 v2 v3 v4 v5 c W rs) : MkS w0 w g L rs J c W := by
  subst hr
  exact ⟨_, _, _, _, _, h⟩
theorem MkS.bel {w w' : World} {g : Nat} {c : CodeD} {W : List (PathT × Value)} (h : MkS w0 w g L rs J c W) (hb : Bel w.heap.size w w') : MkS w0 w' g L rs J c W := by
  obtain ⟨v1, v2, v3, v4, v5, M⟩ := h
  exact ⟨v1, v2, v3, v4, v5, M.bel hb⟩
theorem MkS.rowS {w : World} {g : Nat} {c : CodeD} {W : List (PathT × Value)} {v : Value} {T : TypeId} {k n : Nat} {xs : List Value} (h : MkS w0 w g L ((v, T, k, n, xs) :: rs) J c W) : ∃ A m, v = .slice A n m := by
  obtain ⟨v1, v2, v3, v4, v5, M⟩ := h
  obtain ⟨A, m, h1, _⟩ := own_reads (M.row (v, T, k, n, xs) (by unfold MkR; simp))
  exact ⟨A, m, h1⟩

set_option maxRecDepth 100000 in
set_option maxHeartbeats 2000000 in
theorem mpath_one (g : Nat) (c : CodeD) (W : List (PathT × Value)) (qa : Bool) (qA : Option Addr) (qc : Nat) (G : List SgD) (w : World) (h : MkS w0 w g L rs J c W) (hG : ∀ (i : Nat) (d : SgD), G[i]? = some d → ∃ b off, qA = some ⟨b, off, none⟩ ∧ b < w0.heap.size ∧ w0.rangeAt b (off + i * 2) [.bool d.s.deep, .slice d.A d.Y.length d.c] ∧ Rdd w0 9 d.A d.Y.length (d.Y.flatMap yC) ∧ ∀ a, d.A = some a → a.spot = none)
    (S : List UInt8 → Prop) (n : Nat) (hS : ∀ z ∈ ysD G, WfS S (WfN S n) z.1) (hF : ∀ z ∈ ysD G, FltM w0 n z) (hQ : ∀ z ∈ ysD G, z.1.kind ≠ 4 → z.2 = none) (hGs : ∀ d ∈ G, d.Y.map (·.1) = d.s.sels) (hl1 : c.ps.length ≤ 999990) (hl2 : c.gs.length + G.length ≤ 999990) (hl3 : c.ss.length + (ysD G).length ≤ 999990) (hBD : ∀ Pd Rd, ysD G = Pd ++ Rd → c.is.length + (flD n c.is.length W.length (Pd.map (·.1))).2.length ≤ 999980 ∧ W.length + (flW n (Pd.map (·.1))).length ≤ 999990) :
    Calls Tryz.prog 28 #[.pointer (some ⟨g, 0, none⟩), .agg #[.bool qa, .slice qA G.length qc]] w fun e w' => e = .returned (.tuple #[]) ∧ ∃ Wn : List (PathT × Value), MkS w0 w' g L rs J ⟨c.ps ++ [⟨qa, c.gs.length, (c.gs.length + G.length : Nat)⟩], c.gs ++ gsD c.ss.length (G.map (·.s)), c.ss ++ (flD n c.is.length W.length ((ysD G).map (·.1))).1, c.is ++ (flD n c.is.length W.length ((ysD G).map (·.1))).2⟩ (W ++ Wn) ∧ Wn.map (·.1) = flW n ((ysD G).map (·.1)) ∧ ∀ z ∈ Wn, TreeV w0 z := by
  have M := Lib.hid h
  have HGC := Lib.hid hG
  have HSS := Lib.hid hS
  have HQQ := Lib.hid hQ
  have HFF := Lib.hid hF
  have HBD := Lib.hid hBD
  have HGS := Lib.hid hGs
  have HL1 := Lib.hid hl1
  have HL2 := Lib.hid hl2
  have HL3 := Lib.hid hl3
  clear h hG hS hF hBD hQ hGs hl1 hl2 hl3
  obtain ⟨A1, A2, A3, A4, A5, k1, k2, k3, k4, k5, hM⟩ := M.out.open_; unfold MkA at hM; (try dsimp only at hM); replace M := Lib.hid hM; clear hM
  go_enter Tryz.func28, Tryz.ntmps28
  let qd := bodyPost Tryz.prog Tryz.f28 (fun _ _ => True)
  go_upto_region 1 with (first | ((with_reducible refine g_bx 37 3 ?_); refine l_bx rfl M.out ?_; clear M; intro g3 w' hg3 M; replace M := Lib.hid M.out.freeze))
  (try simp only [Act.put, List.setIfInBounds_toArray, List.set_cons_zero, List.set_cons_succ])
  go_cut [4, 14, 15, 16, 17, 18, 19, 20, 21, 22] (fun s4 _ _ _ _ _ _ _ _ _ wx => ∃ g4 : Nat, s4 = .pointer (some ⟨g4, 0, none⟩) ∧ Hid (Own [] w0 wx ((g, 71, #[.slice A1 c.ps.length k1, .slice A2 c.gs.length k2, .slice A3 c.ss.length k3, .slice A4 c.is.length k4, .slice A5 W.length k5]) :: (g4, 53, #[.bool qa, .int .i64 (c.gs.length : Int), .int .i64 0]) :: L) (MkA A1 A2 A3 A4 A5 k1 k2 k3 k4 k5 c.ps c.gs c.ss c.is W rs) (fun y => J y ∧ Blk y g3 37 #[.bool qa, .slice qA G.length qc])))
  case first =>
    replace M := Lib.hid M.out.drew
    refine tb (fun y => (J y ∧ Blk y g3 37 #[.bool qa, .slice qA G.length qc]) ∧ Blk y g 71 #[.slice A1 c.ps.length k1, .slice A2 c.gs.length k2, .slice A3 c.ss.length k3, .slice A4 c.is.length k4, .slice A5 W.length k5]) ⟨M.out.now, M.out.blk (g, _, _) (by repeat constructor)⟩ ?_
    refine tkp 0 rfl ⟨M.out.now, M.out.blk (g, _, _) (by repeat constructor)⟩ ?_
    refine tk 1 rfl ⟨M.out.now, M.out.blk (g, _, _) (by repeat constructor)⟩ (y_ld1 O_bool _ g3 0 rfl _ _ (fun y h => h.1.2) _ rfl) ?_
    refine tkp 2 rfl ⟨M.out.now, M.out.blk (g, _, _) (by repeat constructor)⟩ ?_
    refine tkp 3 rfl ⟨M.out.now, M.out.blk (g, _, _) (by repeat constructor)⟩ ?_
    refine tkp 4 rfl ⟨M.out.now, M.out.blk (g, _, _) (by repeat constructor)⟩ ?_
    refine tkp 5 rfl ⟨M.out.now, M.out.blk (g, _, _) (by repeat constructor)⟩ ?_
    refine tk 6 rfl ⟨M.out.now, M.out.blk (g, _, _) (by repeat constructor)⟩ (y_ld1 O_sCSeg _ g 1 rfl _ _ (fun y h => h.2) _ rfl) ?_
    refine tkp 7 rfl ⟨M.out.now, M.out.blk (g, _, _) (by repeat constructor)⟩ ?_
    refine tkp 8 rfl ⟨M.out.now, M.out.blk (g, _, _) (by repeat constructor)⟩ ?_
    refine tr [9] ?_
    refine r_al F_CPath (i := 9) rfl M.out ?_ ?_
    · clear M; intro g4 w' hg4 M; refine ⟨⟨M.out.now, M.out.blk (g, _, _) (by repeat constructor)⟩, tn ?_⟩
      refine tr [10] ?_
      refine r_st F_CPath (cs := #[.bool qa, .int .i64 (c.gs.length : Int), .int .i64 0]) (i := 10) rfl rfl rfl M.out (by repeat constructor) (by exact rfl) (by exact rfl) (by exact rfl) ?_ ?_
      · clear M; intro w' M; refine ⟨⟨M.out.now, M.out.blk (g, _, _) (by repeat constructor)⟩, tn ?_⟩
        refine te ?_
        go_wp2
        go_meet
        case rel => exact ⟨g4, rfl, Lib.hid M.out.swap2⟩
      exact .nil
    exact .nil
  case rest =>
    clear M
    obtain ⟨g4, rfl, M⟩ := hcut
    unfold MkA at M
    go_upto_region 5 with (first | ((with_reducible refine g_ld 25 ?_); refine l_ld1 O_sCSel rfl M.out (by repeat constructor) (by exact rfl) ?_) | ((with_reducible refine g_ld 35 ?_); refine l_ld1j O_sSeg rfl M.out (fun y h => h.2) (by exact rfl) ?_))
    replace M := Lib.hid ((MkS.shut M.out).imp (J' := J) fun y h => h.1)
    replace M := Lib.hid (M.out.row 45 1)
    go_wp2
    go_loopg [5, 32] G.length (fun gk vF kk wr => ∃ Pd Rd : List SgD, gk = Rd.length ∧ Hid (G = Pd ++ Rd) ∧ kk = .int .i64 (Pd.length : Nat) ∧ Hid (MkS w0 wr g ((g4, 53, #[.bool qa, .int .i64 (c.gs.length : Int), .int .i64 0]) :: L) ((vF, 45, 1, (ysD Pd).length, (ysD Pd).map (fun (z : SelT × Option Addr) => Value.pointer z.2)) :: rs) (J) ⟨c.ps, (c.gs ++ gsD c.ss.length (Pd.map (·.s))), (c.ss ++ (ysD Pd).map fun (z : SelT × Option Addr) => selD z.1 0), c.is⟩ W))
    case atStart => exact ⟨[], G, rfl, Lib.hid rfl, rfl, Lib.hid (by simpa [ysD, gsD] using M.out)⟩
    case round =>
      clear M
      obtain ⟨Pd, Rd0, hgk, HD, rfl, M⟩ := hrel
      have HGK := Lib.hid hgk
      cases Rd0 with
      | cons dk Rd =>
        have HI := Lib.hid (show G[Pd.length]? = some dk from by rw [HD.out, List.getElem?_append_right (Nat.le_refl _), Nat.sub_self]; rfl)
        obtain ⟨b, off, hqA, hbT, hra, hrd, hsp⟩ := HGC.out _ _ HI.out
        subst hqA
        obtain ⟨dA, hdA⟩ : ∃ dA, dk.A = dA := ⟨_, rfl⟩
        rw [hdA] at hra hrd hsp
        clear hdA
        have HRA := Lib.hid hra
        have HRD := Lib.hid hrd
        have HSP := Lib.hid hsp
        have HBT := Lib.hid hbT
        clear hra hrd hsp hbT
        have hmem : dk ∈ G := List.mem_of_getElem? HI.out
        have hlt : (Pd.length : Int) < (G.length : Int) := by have := (List.getElem?_eq_some_iff.1 HI.out).1; omega
        have hgb : G.length ≤ 999990 := by have := HL2.out; omega
        obtain ⟨Af, mf, hvf⟩ := M.out.rowS
        subst hvf
        obtain ⟨GS, hGS⟩ : ∃ GS, (c.gs ++ gsD c.ss.length (Pd.map (·.s))) = GS := ⟨_, rfl⟩
        obtain ⟨SS, hSS⟩ : ∃ SS, (c.ss ++ (ysD Pd).map fun (z : SelT × Option Addr) => selD z.1 0) = SS := ⟨_, rfl⟩
        rw [hGS, hSS] at M
        have HGE := Lib.hid hGS
        have HSE := Lib.hid hSS
        clear hGS hSS
        obtain ⟨NF, hNF⟩ : ∃ NF, (ysD Pd).length = NF := ⟨_, rfl⟩
        obtain ⟨XF, hXF⟩ : ∃ XF, (ysD Pd).map (fun (z : SelT × Option Addr) => Value.pointer z.2) = XF := ⟨_, rfl⟩
        rw [hNF, hXF] at M
        rw [hNF]
        have HNF := Lib.hid hNF
        have HXF := Lib.hid hXF
        clear hNF hXF
        obtain ⟨A1, A2, A3, A4, A5, k1, k2, k3, k4, k5, hM⟩ := M.out.open_; unfold MkA at hM; (try dsimp only at hM); replace M := Lib.hid hM; clear hM
        have HZS := Lib.hid (show (ysD (Pd ++ [dk])).length = NF + dk.Y.length ∧ (ysD (Pd ++ [dk])).length ≤ (ysD G).length from by
          constructor
          · rw [ysD_app, List.length_append, HNF.out]; simp [ysD]
          · rw [HD.out]; unfold ysD; simp)
        have HSL := Lib.hid (show SS.length = c.ss.length + NF from by rw [← HSE.out, List.length_append, List.length_map, HNF.out])
        have hsl : SS.length + dk.Y.length ≤ 999990 := by have := HL3.out; have := HZS.out; have := HSL.out; omega
        have HGL := Lib.hid (show GS.length = c.gs.length + Pd.length from by rw [← HGE.out, List.length_append, gsD_len, List.length_map])
        have hgl : GS.length ≤ 999980 + 9 := by have := HL2.out; have := HGL.out; have := (List.getElem?_eq_some_iff.1 HI.out).1; omega
        go_upto_region 7 with (first | ((with_reducible refine g_ld 44 ?_); refine l_ldf F_Seg rfl (fun j v hv => (World.cell?_of_block (M.out.bel0.block b HBT.out)).trans (HRA.out j v hv)) rfl ?_) | ((with_reducible refine g_al 44 8 ?_); refine l_al F_Seg M.out ?_; clear M; intro g8 w' hg8 M) | ((with_reducible refine g_st 44 ?_); refine l_st F_Seg rfl rfl M.out (by repeat constructor) (by exact rfl) (by exact rfl) (by exact rfl) ?_; clear M; intro w' M; replace M := Lib.hid M.out.freeze))
        replace M := Lib.hid M.out.drew
        refine tb (fun y => (J y ∧ Blk y g8 44 #[.bool dk.s.deep, .slice dA dk.Y.length dk.c]) ∧ Blk y g 71 #[.slice A1 c.ps.length k1, .slice A2 GS.length k2, .slice A3 SS.length k3, .slice A4 c.is.length k4, .slice A5 W.length k5]) ⟨M.out.now, M.out.blk (g, _, _) (by repeat constructor)⟩ ?_
        refine tkp 0 rfl ⟨M.out.now, M.out.blk (g, _, _) (by repeat constructor)⟩ ?_
        refine tk 1 rfl ⟨M.out.now, M.out.blk (g, _, _) (by repeat constructor)⟩ (y_ld1 O_bool _ g8 0 rfl _ _ (fun y h => h.1.2) _ rfl) ?_
        refine tkp 2 rfl ⟨M.out.now, M.out.blk (g, _, _) (by repeat constructor)⟩ ?_
        refine tkp 3 rfl ⟨M.out.now, M.out.blk (g, _, _) (by repeat constructor)⟩ ?_
        refine tkp 4 rfl ⟨M.out.now, M.out.blk (g, _, _) (by repeat constructor)⟩ ?_
        refine tkp 5 rfl ⟨M.out.now, M.out.blk (g, _, _) (by repeat constructor)⟩ ?_
        refine tk 6 rfl ⟨M.out.now, M.out.blk (g, _, _) (by repeat constructor)⟩ (y_ld1 O_sCSel _ g 2 rfl _ _ (fun y h => h.2) _ rfl) ?_
        refine tkp 7 rfl ⟨M.out.now, M.out.blk (g, _, _) (by repeat constructor)⟩ ?_
        refine tkp 8 rfl ⟨M.out.now, M.out.blk (g, _, _) (by repeat constructor)⟩ ?_
        refine tr [9] ?_
        refine r_al F_CSeg (i := 9) rfl M.out ?_ ?_
        · clear M; intro g9 w' hg9 M; refine ⟨⟨M.out.now, M.out.blk (g, _, _) (by repeat constructor)⟩, tn ?_⟩
          refine tr [10] ?_
          refine r_st F_CSeg (cs := #[.bool dk.s.deep, .int .i64 (SS.length : Int), .int .i64 0]) (i := 10) rfl rfl rfl M.out (by repeat constructor) (by exact rfl) (by exact rfl) (by exact rfl) ?_ ?_
          · clear M; intro w' M; refine ⟨⟨M.out.now, M.out.blk (g, _, _) (by repeat constructor)⟩, tn ?_⟩
            refine te ?_
            go_upto_region 9 with (first | ((with_reducible refine g_ld 42 ?_); refine l_ld1j O_sSel rfl M.out (fun y h => h.2) (by exact rfl) ?_))
            replace M := Lib.hid (MkS.shut (M.out.imp (J' := J) fun y h => h.1).swap2)
            go_wp2
            go_loopg [5, 48] dk.Y.length (fun gk vF kk wr => ∃ Yd Yr : List (SelT × Option Addr), gk = Yr.length ∧ Hid (dk.Y = Yd ++ Yr) ∧ kk = .int .i64 (Yd.length : Nat) ∧ Hid (MkS w0 wr g ((g9, 55, #[.bool dk.s.deep, .int .i64 (SS.length : Int), .int .i64 0]) :: (g4, 53, #[.bool qa, .int .i64 (c.gs.length : Int), .int .i64 0]) :: L) ((vF, 45, 1, NF + Yd.length, XF ++ Yd.map (fun (z : SelT × Option Addr) => Value.pointer z.2)) :: rs) (fun y => J y) ⟨c.ps, GS, SS ++ Yd.map fun (z : SelT × Option Addr) => selD z.1 0, c.is⟩ W))
            case atStart => exact ⟨[], dk.Y, rfl, Lib.hid rfl, rfl, Lib.hid (by simpa using M.out)⟩
            case round =>
              clear M
              obtain ⟨Yd, Yr0, hgy, HY, rfl, M⟩ := hrel
              have HGY := Lib.hid hgy
              clear hgy
              obtain ⟨Ag, mg, hvg⟩ := M.out.rowS
              subst hvg
              cases Yr0 with
              | cons z Yr =>
                have HIz := Lib.hid (show dk.Y[Yd.length]? = some z from by rw [HY.out, List.getElem?_append_right (Nat.le_refl _), Nat.sub_self]; rfl)
                have hyl : Yd.length < dk.Y.length := (List.getElem?_eq_some_iff.1 HIz.out).1
                have hyi : (Yd.length : Int) < (dk.Y.length : Int) := by omega
                have hzm : z ∈ ysD G := by
                  unfold ysD; exact List.mem_flatMap.2 ⟨dk, hmem, List.mem_of_getElem? HIz.out⟩
                have HZW := Lib.hid (HSS.out z hzm)
                have HZQ := Lib.hid (HQQ.out z hzm)
                obtain ⟨ad, hA, hbl, hcel⟩ := HRD.out.2 (by omega)
                obtain ⟨bY, oY, spY⟩ := ad
                obtain rfl : spY = none := HSP.out _ hA
                have HRZ := Lib.hid (show w0.rangeAt bY (oY + Yd.length * 9) [.int .i64 z.1.kind, .string (bs z.1.name), .int .i64 z.1.index, .int .i64 z.1.fr, .int .i64 z.1.tt, .int .i64 z.1.step, .bool z.1.hf, .bool z.1.ht, .pointer z.2] from fun j u hu => by
                  have hj : j < 9 := (List.getElem?_eq_some_iff.1 hu).1
                  have := hcel (Yd.length * 9 + j) u (by rw [flat_get yC 9 (fun _ => rfl) dk.Y Yd.length j hj, HIz.out]; exact hu)
                  rw [add_lit, ← Nat.add_assoc] at this
                  exact this)
                have HBY := Lib.hid hbl
                have hwr : IntKind.i64.wrap (z.1.index + z.1.fr) = z.1.index + z.1.fr := IntWalk.i64_in _ HZW.out.sum
                clear hcel hbl hzm
                subst hA
                obtain ⟨SB, hSB⟩ : ∃ SB, SS ++ Yd.map (fun (z : SelT × Option Addr) => selD z.1 0) = SB := ⟨_, rfl⟩
                rw [hSB] at M
                have HSB := Lib.hid hSB
                have hsb : SB.length ≤ 999990 := by rw [← hSB, List.length_append, List.length_map]; omega
                clear hSB
                have hnf : NF + Yd.length ≤ 999990 := by have := HSL.out; omega
                obtain ⟨A1, A2, A3, A4, A5, k1, k2, k3, k4, k5, hM⟩ := M.out.open_; unfold MkA at hM; (try dsimp only at hM); replace M := Lib.hid hM; clear hM
                go_upto_region 11 with (first | ((with_reducible refine g_ld 47 ?_); refine l_ldf F_Sel rfl (fun j v hv => (World.cell?_of_block (M.out.bel0.block bY HBY.out)).trans (HRZ.out j v hv)) rfl ?_) | ((with_reducible refine g_al 47 11 ?_); refine l_al F_Sel M.out ?_; clear M; intro g11 w' hg11 M) | ((with_reducible refine g_st 47 ?_); refine l_st F_Sel rfl rfl M.out (by repeat constructor) (by exact rfl) (by exact rfl) (by exact rfl) ?_; clear M; intro w' M; replace M := Lib.hid M.out.freeze))
                replace M := Lib.hid M.out.drew
                refine tb (fun y => J y ∧ Blk y g11 47 #[.int .i64 z.1.kind, .string (bs z.1.name), .int .i64 z.1.index, .int .i64 z.1.fr, .int .i64 z.1.tt, .int .i64 z.1.step, .bool z.1.hf, .bool z.1.ht, .pointer z.2]) M.out.now ?_
                refine tkp 0 rfl M.out.now ?_
                refine tkp 1 rfl M.out.now ?_
                refine tkp 2 rfl M.out.now ?_
                refine tkp 3 rfl M.out.now ?_
                refine tkp 4 rfl M.out.now ?_
                refine tk 6 rfl M.out.now (y_ld F_Sel _ g11 rfl _ _ (fun y h => h.2) rfl) ?_
                refine tr [5, 7] ?_
                refine r_ld1 O_sCSel (i := 5) rfl rfl M.out (by repeat constructor) (by exact rfl) ?_ ?_
                · refine ⟨M.out.now, tn ?_⟩
                  refine tr [7] ?_
                  refine rdy_call (msel_any HZW.out HZQ.out _) (i := 7) (op := .call _) rfl (by go_simp; rfl) ?_ ?_
                  · rintro e_ w' ⟨rfl, hb⟩; replace M := Lib.hid (M.out.bel hb); clear hb; refine ⟨_, rfl, ?_⟩; refine ⟨M.out.now, tn ?_⟩
                    refine tr [8] ?_
                    refine r_bs SL_sCSel (i := 8) rfl (cs := #[.int .i64 z.1.kind, .string (bs z.1.name), .int .i64 (z.1.index + z.1.fr), .int .i64 z.1.tt, .int .i64 z.1.step, .bool z.1.hf, .bool z.1.ht, .int .i64 0]) (by kernel_rfl) M.out ?_ ?_
                    · clear M; intro gb w' hgb M; refine ⟨M.out.now, tn ?_⟩
                      refine tr [9] ?_
                      refine r_apB SL_sCSel (i := 9) rfl rfl rfl M.out (by repeat constructor) (by repeat constructor) (by exact rfl) (by exact rfl) (by unfold maxLen; omega) (by omega) ?_ ?_
                      · intro vn w' Mn; replace Mn := Mn _ (by repeat constructor); replace M := Lib.hid Mn; clear Mn; obtain ⟨An, cn, hvn, -⟩ := own_reads (M.out.row (vn, _) (by repeat constructor)); simp only at hvn; subst hvn; refine ⟨M.out.now, tn ?_⟩
                        refine tkp 10 rfl M.out.now ?_
                        refine tkp 11 rfl M.out.now ?_
                        refine tkp 12 rfl M.out.now ?_
                        refine tr [13] ?_
                        refine r_st1 O_sCSel (v := .slice An (SB.length + 1) cn) (i := 13) rfl rfl rfl rfl M.out (by repeat constructor) ?_ ?_
                        · clear M; intro w' M; refine ⟨M.out.now, tn ?_⟩
                          refine te ?_
                          replace M := Lib.hid M.out.freeze
                          go_wp2_with (first | ((with_reducible refine g_ld 45 ?_); refine l_ld1j O_pex rfl M.out (fun y h => h.1.2) (by exact rfl) ?_) | ((with_reducible refine g_bs 99 68 ?_); refine l_bs SL_sPex (cs := #[.pointer z.2]) (by kernel_rfl) M.out ?_; clear M; intro g68 w' hg68 M) | ((with_reducible refine g_ap 99 69 ?_); refine l_apB SL_sPex rfl rfl M.out (by repeat constructor) (by repeat constructor) (by exact rfl) (by exact rfl) (by unfold maxLen; omega) (by omega) ?_; intro v69 w' Mn; replace Mn := Mn _ (by repeat constructor); replace M := Lib.hid Mn; clear Mn))
                          go_roundg Yr.length
                          case measure => first | (rw [HGY.out]; simp; done) | (simp; done)
                          case rel => exact ⟨Yd ++ [z], Yr, rfl, Lib.hid (by rw [HY.out]; simp), by first | go_num | simp, Lib.hid (by
                              have h := M.out.freeze.imp (J' := J) fun y h => h.1.1.1
                              have e1 : SS ++ (Yd ++ [z]).map (fun (z : SelT × Option Addr) => selD z.1 0) = SB ++ [selD z.1 0] := by rw [← HSB.out]; simp
                              have e2 : XF ++ (Yd ++ [z]).map (fun (z : SelT × Option Addr) => Value.pointer z.2) = (XF ++ Yd.map (fun (z : SelT × Option Addr) => Value.pointer z.2)) ++ [.pointer z.2] := by simp
                              have e3 : NF + (Yd ++ [z]).length = NF + Yd.length + 1 := by simp; omega
                              rw [e1, e2, e3]
                              exact MkS.of h (by unfold MkR; dsimp only; rw [sel_snoc2, List.length_append, List.length_singleton]; rfl))⟩
                        exact .nil
                      exact .nil
                    exact .nil
                  exact .nil
                refine rdy_call (msel_any HZW.out HZQ.out _) (i := 7) (op := .call _) rfl (by go_simp; rfl) ?_ ?_
                · rintro e_ w' ⟨rfl, hb⟩; replace M := Lib.hid (M.out.bel hb); clear hb; refine ⟨_, rfl, ?_⟩; refine ⟨M.out.now, tn ?_⟩
                  refine tr [5, 8] ?_
                  refine r_ld1 O_sCSel (i := 5) rfl rfl M.out (by repeat constructor) (by exact rfl) ?_ ?_
                  · refine ⟨M.out.now, tn ?_⟩
                    refine tr [8] ?_
                    refine r_bs SL_sCSel (i := 8) rfl (cs := #[.int .i64 z.1.kind, .string (bs z.1.name), .int .i64 (z.1.index + z.1.fr), .int .i64 z.1.tt, .int .i64 z.1.step, .bool z.1.hf, .bool z.1.ht, .int .i64 0]) (by kernel_rfl) M.out ?_ ?_
                    · clear M; intro gb w' hgb M; refine ⟨M.out.now, tn ?_⟩
                      refine tr [9] ?_
                      refine r_apB SL_sCSel (i := 9) rfl rfl rfl M.out (by repeat constructor) (by repeat constructor) (by exact rfl) (by exact rfl) (by unfold maxLen; omega) (by omega) ?_ ?_
                      · intro vn w' Mn; replace Mn := Mn _ (by repeat constructor); replace M := Lib.hid Mn; clear Mn; obtain ⟨An, cn, hvn, -⟩ := own_reads (M.out.row (vn, _) (by repeat constructor)); simp only at hvn; subst hvn; refine ⟨M.out.now, tn ?_⟩
                        refine tkp 10 rfl M.out.now ?_
                        refine tkp 11 rfl M.out.now ?_
                        refine tkp 12 rfl M.out.now ?_
                        refine tr [13] ?_
                        refine r_st1 O_sCSel (v := .slice An (SB.length + 1) cn) (i := 13) rfl rfl rfl rfl M.out (by repeat constructor) ?_ ?_
                        · clear M; intro w' M; refine ⟨M.out.now, tn ?_⟩
                          refine te ?_
                          replace M := Lib.hid M.out.freeze
                          go_wp2_with (first | ((with_reducible refine g_ld 45 ?_); refine l_ld1j O_pex rfl M.out (fun y h => h.1.2) (by exact rfl) ?_) | ((with_reducible refine g_bs 99 68 ?_); refine l_bs SL_sPex (cs := #[.pointer z.2]) (by kernel_rfl) M.out ?_; clear M; intro g68 w' hg68 M) | ((with_reducible refine g_ap 99 69 ?_); refine l_apB SL_sPex rfl rfl M.out (by repeat constructor) (by repeat constructor) (by exact rfl) (by exact rfl) (by unfold maxLen; omega) (by omega) ?_; intro v69 w' Mn; replace Mn := Mn _ (by repeat constructor); replace M := Lib.hid Mn; clear Mn))
                          go_roundg Yr.length
                          case measure => first | (rw [HGY.out]; simp; done) | (simp; done)
                          case rel => exact ⟨Yd ++ [z], Yr, rfl, Lib.hid (by rw [HY.out]; simp), by first | go_num | simp, Lib.hid (by
                              have h := M.out.freeze.imp (J' := J) fun y h => h.1.1.1
                              have e1 : SS ++ (Yd ++ [z]).map (fun (z : SelT × Option Addr) => selD z.1 0) = SB ++ [selD z.1 0] := by rw [← HSB.out]; simp
                              have e2 : XF ++ (Yd ++ [z]).map (fun (z : SelT × Option Addr) => Value.pointer z.2) = (XF ++ Yd.map (fun (z : SelT × Option Addr) => Value.pointer z.2)) ++ [.pointer z.2] := by simp
                              have e3 : NF + (Yd ++ [z]).length = NF + Yd.length + 1 := by simp; omega
                              rw [e1, e2, e3]
                              exact MkS.of h (by unfold MkR; dsimp only; rw [sel_snoc2, List.length_append, List.length_singleton]; rfl))⟩
                        exact .nil
                      exact .nil
                    exact .nil
                  refine r_bs SL_sCSel (i := 8) rfl (cs := #[.int .i64 z.1.kind, .string (bs z.1.name), .int .i64 (z.1.index + z.1.fr), .int .i64 z.1.tt, .int .i64 z.1.step, .bool z.1.hf, .bool z.1.ht, .int .i64 0]) (by kernel_rfl) M.out ?_ ?_
                  · clear M; intro gb w' hgb M; refine ⟨M.out.now, tn ?_⟩
                    refine tr [5] ?_
                    refine r_ld1 O_sCSel (i := 5) rfl rfl M.out (by repeat constructor) (by exact rfl) ?_ ?_
                    · refine ⟨M.out.now, tn ?_⟩
                      refine tr [9] ?_
                      refine r_apB SL_sCSel (i := 9) rfl rfl rfl M.out (by repeat constructor) (by repeat constructor) (by exact rfl) (by exact rfl) (by unfold maxLen; omega) (by omega) ?_ ?_
                      · intro vn w' Mn; replace Mn := Mn _ (by repeat constructor); replace M := Lib.hid Mn; clear Mn; obtain ⟨An, cn, hvn, -⟩ := own_reads (M.out.row (vn, _) (by repeat constructor)); simp only at hvn; subst hvn; refine ⟨M.out.now, tn ?_⟩
                        refine tkp 10 rfl M.out.now ?_
                        refine tkp 11 rfl M.out.now ?_
                        refine tkp 12 rfl M.out.now ?_
                        refine tr [13] ?_
                        refine r_st1 O_sCSel (v := .slice An (SB.length + 1) cn) (i := 13) rfl rfl rfl rfl M.out (by repeat constructor) ?_ ?_
                        · clear M; intro w' M; refine ⟨M.out.now, tn ?_⟩
                          refine te ?_
                          replace M := Lib.hid M.out.freeze
                          go_wp2_with (first | ((with_reducible refine g_ld 45 ?_); refine l_ld1j O_pex rfl M.out (fun y h => h.1.2) (by exact rfl) ?_) | ((with_reducible refine g_bs 99 68 ?_); refine l_bs SL_sPex (cs := #[.pointer z.2]) (by kernel_rfl) M.out ?_; clear M; intro g68 w' hg68 M) | ((with_reducible refine g_ap 99 69 ?_); refine l_apB SL_sPex rfl rfl M.out (by repeat constructor) (by repeat constructor) (by exact rfl) (by exact rfl) (by unfold maxLen; omega) (by omega) ?_; intro v69 w' Mn; replace Mn := Mn _ (by repeat constructor); replace M := Lib.hid Mn; clear Mn))
                          go_roundg Yr.length
                          case measure => first | (rw [HGY.out]; simp; done) | (simp; done)
                          case rel => exact ⟨Yd ++ [z], Yr, rfl, Lib.hid (by rw [HY.out]; simp), by first | go_num | simp, Lib.hid (by
                              have h := M.out.freeze.imp (J' := J) fun y h => h.1.1.1
                              have e1 : SS ++ (Yd ++ [z]).map (fun (z : SelT × Option Addr) => selD z.1 0) = SB ++ [selD z.1 0] := by rw [← HSB.out]; simp
                              have e2 : XF ++ (Yd ++ [z]).map (fun (z : SelT × Option Addr) => Value.pointer z.2) = (XF ++ Yd.map (fun (z : SelT × Option Addr) => Value.pointer z.2)) ++ [.pointer z.2] := by simp
                              have e3 : NF + (Yd ++ [z]).length = NF + Yd.length + 1 := by simp; omega
                              rw [e1, e2, e3]
                              exact MkS.of h (by unfold MkR; dsimp only; rw [sel_snoc2, List.length_append, List.length_singleton]; rfl))⟩
                        exact .nil
                      exact .nil
                    exact .nil
                  exact .nil
                exact .nil
              | nil =>
                have hYd : Yd = dk.Y := by simpa using HY.out.symm
                subst hYd
                have hnl : ¬ (dk.Y.length : Int) < (dk.Y.length : Int) := by omega
                obtain ⟨SX, hSX⟩ : ∃ SX, SS ++ dk.Y.map (fun (z : SelT × Option Addr) => selD z.1 0) = SX := ⟨_, rfl⟩
                rw [hSX] at M
                have HSX := Lib.hid hSX
                have hsx : SX.length = SS.length + dk.Y.length := by rw [← hSX, List.length_append, List.length_map]
                have HSXL := Lib.hid hsx
                clear hSX hsx
                obtain ⟨A1, A2, A3, A4, A5, k1, k2, k3, k4, k5, hM⟩ := M.out.open_; unfold MkA at hM; (try dsimp only at hM); replace M := Lib.hid hM; clear hM
                go_upto_region 15 with (first | ((with_reducible refine g_ld 25 ?_); refine l_ld1 O_sCSel rfl M.out (by repeat constructor) (by exact rfl) ?_) | ((with_reducible refine g_st 3 ?_); refine l_st1 (v := .int .i64 (SX.length : Int)) O_int rfl rfl (by exact rfl) M.out (by repeat constructor) ?_; clear M; intro w' M))
                replace M := Lib.hid M.out.swap2.freeze
                replace M := Lib.hid M.out.drew
                refine tb (fun y => J y ∧ Blk y g9 55 #[.bool dk.s.deep, .int .i64 (SS.length : Int), .int .i64 (SX.length : Int)]) M.out.now ?_
                refine tkp 0 rfl M.out.now ?_
                refine tkp 1 rfl M.out.now ?_
                refine tkp 2 rfl M.out.now ?_
                refine tkp 3 rfl M.out.now ?_
                refine tkp 4 rfl M.out.now ?_
                refine tk 6 rfl M.out.now (y_ld F_CSeg _ g9 rfl _ _ (fun y h => h.2) rfl) ?_
                refine tr [5, 7] ?_
                refine r_ld1 O_sCSeg (i := 5) rfl rfl M.out (by repeat constructor) (by exact rfl) ?_ ?_
                · refine ⟨M.out.now, tn ?_⟩
                  refine tr [7] ?_
                  refine r_bs SL_sCSeg (i := 7) rfl (cs := #[.bool dk.s.deep, .int .i64 (SS.length : Int), .int .i64 (SX.length : Int)]) (by kernel_rfl) M.out ?_ ?_
                  · clear M; intro gb w' hgb M; refine ⟨M.out.now, tn ?_⟩
                    refine tr [8] ?_
                    refine r_apB SL_sCSeg (i := 8) rfl rfl rfl M.out (by repeat constructor) (by repeat constructor) (by exact rfl) (by exact rfl) (by unfold maxLen; omega) (by omega) ?_ ?_
                    · intro vn w' Mn; replace Mn := Mn _ (by repeat constructor); replace M := Lib.hid Mn; clear Mn; obtain ⟨An, cn, hvn, -⟩ := own_reads (M.out.row (vn, _) (by repeat constructor)); simp only at hvn; subst hvn; refine ⟨M.out.now, tn ?_⟩
                      refine tkp 9 rfl M.out.now ?_
                      refine tkp 10 rfl M.out.now ?_
                      refine tkp 11 rfl M.out.now ?_
                      refine tr [12] ?_
                      refine r_st1 O_sCSeg (v := .slice An (GS.length + 1) cn) (i := 12) rfl rfl rfl rfl M.out (by repeat constructor) ?_ ?_
                      · clear M; intro w' M; refine ⟨M.out.now, tn ?_⟩
                        refine te ?_
                        go_wp2
                        go_roundg Rd.length
                        case measure => first | (rw [HGK.out]; simp; done) | (simp; done)
                        case rel => exact ⟨Pd ++ [dk], Rd, rfl, Lib.hid (by rw [HD.out]; simp), by first | go_num | simp, Lib.hid (by
                            have h := M.out.freeze.imp (J' := J) fun y h => h.1.1
                            have e1 : (c.gs ++ gsD c.ss.length ((Pd ++ [dk]).map (·.s))) = GS ++ [⟨dk.s.deep, (SS.length : Nat), (SX.length : Nat)⟩] := by
                              have hso : (selsOf (Pd.map (·.s))).length = NF := by rw [sel_len fun d hd => HGS.out d (by rw [HD.out]; simp [hd]), HNF.out]
                              have hsl : dk.s.sels.length = dk.Y.length := by rw [← HGS.out dk hmem, List.length_map]
                              rw [List.map_append, gsD_app, ← List.append_assoc, HGE.out, hso, ← HSL.out, List.map_cons, List.map_nil, gsD, gsD, hsl, ← HSXL.out]
                            have e2 : (c.ss ++ (ysD (Pd ++ [dk])).map fun (z : SelT × Option Addr) => selD z.1 0) = SX := by rw [ysD_app, List.map_append, ← List.append_assoc, HSE.out, ← HSX.out]; simp [ysD]
                            have e4 : (ysD (Pd ++ [dk])).map (fun (z : SelT × Option Addr) => Value.pointer z.2) = XF ++ dk.Y.map (fun (z : SelT × Option Addr) => Value.pointer z.2) := by rw [ysD_app, List.map_append, HXF.out]; simp [ysD]
                            rw [e1, e2, HZS.out.1, e4]
                            exact MkS.of h (by unfold MkR; dsimp only; rw [seg_snoc2, List.length_append, List.length_singleton]; rfl))⟩
                      exact .nil
                    exact .nil
                  exact .nil
                refine r_bs SL_sCSeg (i := 7) rfl (cs := #[.bool dk.s.deep, .int .i64 (SS.length : Int), .int .i64 (SX.length : Int)]) (by kernel_rfl) M.out ?_ ?_
                · clear M; intro gb w' hgb M; refine ⟨M.out.now, tn ?_⟩
                  refine tr [5] ?_
                  refine r_ld1 O_sCSeg (i := 5) rfl rfl M.out (by repeat constructor) (by exact rfl) ?_ ?_
                  · refine ⟨M.out.now, tn ?_⟩
                    refine tr [8] ?_
                    refine r_apB SL_sCSeg (i := 8) rfl rfl rfl M.out (by repeat constructor) (by repeat constructor) (by exact rfl) (by exact rfl) (by unfold maxLen; omega) (by omega) ?_ ?_
                    · intro vn w' Mn; replace Mn := Mn _ (by repeat constructor); replace M := Lib.hid Mn; clear Mn; obtain ⟨An, cn, hvn, -⟩ := own_reads (M.out.row (vn, _) (by repeat constructor)); simp only at hvn; subst hvn; refine ⟨M.out.now, tn ?_⟩
                      refine tkp 9 rfl M.out.now ?_
                      refine tkp 10 rfl M.out.now ?_
                      refine tkp 11 rfl M.out.now ?_
                      refine tr [12] ?_
                      refine r_st1 O_sCSeg (v := .slice An (GS.length + 1) cn) (i := 12) rfl rfl rfl rfl M.out (by repeat constructor) ?_ ?_
                      · clear M; intro w' M; refine ⟨M.out.now, tn ?_⟩
                        refine te ?_
                        go_wp2
                        go_roundg Rd.length
                        case measure => first | (rw [HGK.out]; simp; done) | (simp; done)
                        case rel => exact ⟨Pd ++ [dk], Rd, rfl, Lib.hid (by rw [HD.out]; simp), by first | go_num | simp, Lib.hid (by
                            have h := M.out.freeze.imp (J' := J) fun y h => h.1.1
                            have e1 : (c.gs ++ gsD c.ss.length ((Pd ++ [dk]).map (·.s))) = GS ++ [⟨dk.s.deep, (SS.length : Nat), (SX.length : Nat)⟩] := by
                              have hso : (selsOf (Pd.map (·.s))).length = NF := by rw [sel_len fun d hd => HGS.out d (by rw [HD.out]; simp [hd]), HNF.out]
                              have hsl : dk.s.sels.length = dk.Y.length := by rw [← HGS.out dk hmem, List.length_map]
                              rw [List.map_append, gsD_app, ← List.append_assoc, HGE.out, hso, ← HSL.out, List.map_cons, List.map_nil, gsD, gsD, hsl, ← HSXL.out]
                            have e2 : (c.ss ++ (ysD (Pd ++ [dk])).map fun (z : SelT × Option Addr) => selD z.1 0) = SX := by rw [ysD_app, List.map_append, ← List.append_assoc, HSE.out, ← HSX.out]; simp [ysD]
                            have e4 : (ysD (Pd ++ [dk])).map (fun (z : SelT × Option Addr) => Value.pointer z.2) = XF ++ dk.Y.map (fun (z : SelT × Option Addr) => Value.pointer z.2) := by rw [ysD_app, List.map_append, HXF.out]; simp [ysD]
                            rw [e1, e2, HZS.out.1, e4]
                            exact MkS.of h (by unfold MkR; dsimp only; rw [seg_snoc2, List.length_append, List.length_singleton]; rfl))⟩
                      exact .nil
                    exact .nil
                  exact .nil
                exact .nil
          exact .nil
        exact .nil
      | nil =>
        obtain rfl : G = Pd := by simpa using HD.out
        have hnlt : ¬ (G.length : Int) < (G.length : Int) := by omega
        obtain ⟨Af, mf, hvf⟩ := M.out.rowS
        subst hvf
        obtain ⟨GS, hGS⟩ : ∃ GS, (c.gs ++ gsD c.ss.length (G.map (·.s))) = GS := ⟨_, rfl⟩
        obtain ⟨SS, hSS⟩ : ∃ SS, (c.ss ++ (ysD G).map fun (z : SelT × Option Addr) => selD z.1 0) = SS := ⟨_, rfl⟩
        rw [hGS, hSS] at M
        have hgl : GS.length = c.gs.length + G.length := by rw [← hGS, List.length_append, gsD_len, List.length_map]
        have HGL := Lib.hid hgl
        have HGE := Lib.hid hGS
        have HSE := Lib.hid hSS
        clear hGS hSS HD hgl
        have hl1 := HL1.out
        obtain ⟨A1, A2, A3, A4, A5, k1, k2, k3, k4, k5, hM⟩ := M.out.open_; unfold MkA at hM; (try dsimp only at hM); replace M := Lib.hid hM; clear hM
        go_upto_region 18 with (first | ((with_reducible refine g_ld 24 ?_); refine l_ld1 O_sCSeg rfl M.out (by repeat constructor) (by exact rfl) ?_) | ((with_reducible refine g_st 3 ?_); refine l_st1 (v := .int .i64 (GS.length : Int)) O_int rfl rfl (by exact rfl) M.out (by repeat constructor) ?_; clear M; intro w' M))
        replace M := Lib.hid M.out.swap2.freeze
        (try simp only [Act.put])
        go_cut [98, 99, 100, 101, 102, 103, 104, 105, 106, 107, 108, 109] (fun _ _ _ _ _ _ _ _ _ _ _ _ wx => Hid (MkS w0 wx g L (((.slice Af (ysD G).length mf), 45, 1, (ysD G).length, (ysD G).map (fun (z : SelT × Option Addr) => Value.pointer z.2)) :: rs) J ⟨c.ps ++ [⟨qa, (c.gs.length : Int), (GS.length : Int)⟩], GS, SS, c.is⟩ W))
        case first =>
          replace M := Lib.hid M.out.drew
          refine tb (fun y => J y ∧ Blk y g4 53 #[.bool qa, .int .i64 (c.gs.length : Int), .int .i64 (GS.length : Int)]) M.out.now ?_
          refine tkp 0 rfl M.out.now ?_
          refine tkp 1 rfl M.out.now ?_
          refine tkp 2 rfl M.out.now ?_
          refine tkp 3 rfl M.out.now ?_
          refine tkp 4 rfl M.out.now ?_
          refine tk 6 rfl M.out.now (y_ld F_CPath _ g4 rfl _ _ (fun y h => h.2) rfl) ?_
          refine tr [5, 7] ?_
          refine r_ld1 O_sCPath (i := 5) rfl rfl M.out (by repeat constructor) (by exact rfl) ?_ ?_
          · refine ⟨M.out.now, tn ?_⟩
            refine tr [7] ?_
            refine r_bs SL_sCPath (i := 7) rfl (cs := #[.bool qa, .int .i64 (c.gs.length : Int), .int .i64 (GS.length : Int)]) (by kernel_rfl) M.out ?_ ?_
            · clear M; intro gb w' hgb M; refine ⟨M.out.now, tn ?_⟩
              refine tr [8] ?_
              refine r_apB SL_sCPath (i := 8) rfl rfl rfl M.out (by repeat constructor) (by repeat constructor) (by exact rfl) (by exact rfl) (by unfold maxLen; omega) (by omega) ?_ ?_
              · intro vn w' Mn; replace Mn := Mn _ (by repeat constructor); replace M := Lib.hid Mn; clear Mn; obtain ⟨An, cn, hvn, -⟩ := own_reads (M.out.row (vn, _) (by repeat constructor)); simp only at hvn; subst hvn; refine ⟨M.out.now, tn ?_⟩
                refine tkp 9 rfl M.out.now ?_
                refine tkp 10 rfl M.out.now ?_
                refine tkp 11 rfl M.out.now ?_
                refine tr [12] ?_
                refine r_st1 O_sCPath (v := .slice An (c.ps.length + 1) cn) (i := 12) rfl rfl rfl rfl M.out (by repeat constructor) ?_ ?_
                · clear M; intro w' M; refine ⟨M.out.now, tn ?_⟩
                  refine te ?_
                  go_wp2
                  go_meet
                  case rel => exact Lib.hid (MkS.of (M.out.freeze.imp (J' := J) fun y h => h.1.1) (by unfold MkR; dsimp only; rw [path_snoc2, List.length_append, List.length_singleton]; rfl))
                exact .nil
              exact .nil
            exact .nil
          refine r_bs SL_sCPath (i := 7) rfl (cs := #[.bool qa, .int .i64 (c.gs.length : Int), .int .i64 (GS.length : Int)]) (by kernel_rfl) M.out ?_ ?_
          · clear M; intro gb w' hgb M; refine ⟨M.out.now, tn ?_⟩
            refine tr [5] ?_
            refine r_ld1 O_sCPath (i := 5) rfl rfl M.out (by repeat constructor) (by exact rfl) ?_ ?_
            · refine ⟨M.out.now, tn ?_⟩
              refine tr [8] ?_
              refine r_apB SL_sCPath (i := 8) rfl rfl rfl M.out (by repeat constructor) (by repeat constructor) (by exact rfl) (by exact rfl) (by unfold maxLen; omega) (by omega) ?_ ?_
              · intro vn w' Mn; replace Mn := Mn _ (by repeat constructor); replace M := Lib.hid Mn; clear Mn; obtain ⟨An, cn, hvn, -⟩ := own_reads (M.out.row (vn, _) (by repeat constructor)); simp only at hvn; subst hvn; refine ⟨M.out.now, tn ?_⟩
                refine tkp 9 rfl M.out.now ?_
                refine tkp 10 rfl M.out.now ?_
                refine tkp 11 rfl M.out.now ?_
                refine tr [12] ?_
                refine r_st1 O_sCPath (v := .slice An (c.ps.length + 1) cn) (i := 12) rfl rfl rfl rfl M.out (by repeat constructor) ?_ ?_
                · clear M; intro w' M; refine ⟨M.out.now, tn ?_⟩
                  refine te ?_
                  go_wp2
                  go_meet
                  case rel => exact Lib.hid (MkS.of (M.out.freeze.imp (J' := J) fun y h => h.1.1) (by unfold MkR; dsimp only; rw [path_snoc2, List.length_append, List.length_singleton]; rfl))
                exact .nil
              exact .nil
            exact .nil
          exact .nil
        case rest =>
          clear M
          have M := hcut
          clear hcut
          obtain ⟨AF, cF, hvF, hAF, _, M2⟩ := M.out.freeze
          simp only [Value.slice.injEq, true_and] at hvF
          obtain ⟨rfl, rfl⟩ := hvF
          have HAF := Lib.hid hAF
          replace M := Lib.hid M2
          clear M2 hAF
          obtain ⟨Y, hY⟩ : ∃ Y, ysD G = Y := ⟨_, rfl⟩
          have HYG := Lib.hid hY
          rw [hY] at M ⊢
          rw [hY] at HSE
          have hyb : Y.length ≤ 999990 := by have := HL3.out; rw [hY] at this; omega
          have hsb : c.ss.length + Y.length ≤ 999990 := by have := HL3.out; rw [hY] at this; omega
          clear hY
          obtain ⟨PS, hPS⟩ : ∃ PS, c.ps ++ [(⟨qa, (c.gs.length : Int), (GS.length : Int)⟩ : PathD)] = PS := ⟨_, rfl⟩
          have HPS := Lib.hid hPS
          rw [hPS] at M
          clear hPS
          go_wp2
          go_loopg [112] Y.length (fun gk kk wr => ∃ (Yd Yr : List (SelT × Option Addr)) (Wk : List (PathT × Value)), gk = Yr.length ∧ Hid (Y = Yd ++ Yr) ∧ kk = .int .i64 (Yd.length : Nat) ∧ Hid (Wk.map (·.1) = flW n (Yd.map (·.1)) ∧ ∀ z ∈ Wk, TreeV w0 z) ∧ Hid (MkS w0 wr g L rs (fun y => J y ∧ Rdd y 1 Af Y.length (Y.map (fun (z : SelT × Option Addr) => Value.pointer z.2))) ⟨PS, GS, c.ss ++ (flD n c.is.length W.length (Yd.map (·.1))).1 ++ Yr.map (fun (z : SelT × Option Addr) => selD z.1 0), c.is ++ (flD n c.is.length W.length (Yd.map (·.1))).2⟩ (W ++ Wk)))
          case atStart => exact ⟨[], Y, [], rfl, Lib.hid rfl, rfl, Lib.hid ⟨rfl, fun z h => by simp at h⟩, Lib.hid (by simpa [flD, HSE.out] using M.out)⟩
          case round =>
            clear M
            obtain ⟨Yd, Yr0, Wk, hgy, HY, rfl, HWK, M⟩ := hrel
            have HGY := Lib.hid hgy
            clear hgy
            have HSM := Lib.hid (show ∀ z ∈ Y, WfS S (WfN S n) z.1 ∧ FltM w0 n z ∧ (z.1.kind ≠ 4 → z.2 = none) from fun z hz => by
              rw [← HYG.out] at hz
              exact ⟨HSS.out z hz, HFF.out z hz, HQQ.out z hz⟩)
            cases Yr0 with
            | cons z Yr =>
              have HIz := Lib.hid (show Y[Yd.length]? = some z from by rw [HY.out, List.getElem?_append_right (Nat.le_refl _), Nat.sub_self]; rfl)
              have hyl : Yd.length < Y.length := (List.getElem?_eq_some_iff.1 HIz.out).1
              have hyi : (Yd.length : Int) < (Y.length : Int) := by omega
              obtain ⟨hzw, hzf, hzq⟩ := HSM.out z (List.mem_of_getElem? HIz.out)
              obtain ⟨ad, hA, _⟩ := M.out.now.2.2 (by omega)
              obtain ⟨bF, rfl⟩ := HAF.out _ hA
              subst hA
              have HCP := Lib.hid (show ∀ y : World, Rdd y 1 (some ⟨bF, 0, none⟩) Y.length (Y.map (fun (z : SelT × Option Addr) => Value.pointer z.2)) → y.cell? ⟨bF, Yd.length, none⟩ = some (.pointer z.2) from fun y h => by
                obtain ⟨ad, e, _, hc⟩ := h.2 (by omega)
                cases e
                have := hc Yd.length (.pointer z.2) (by rw [List.getElem?_map, HIz.out]; rfl)
                rw [add_lit] at this
                simpa using this)
              rcases hzw.flt with ⟨hk4, e, hze, hwe⟩ | ⟨hk4, hze⟩
              · obtain ⟨b, off, kc, We, hz2, hbT, hkc, hra, hWe1, hWe2, hKC⟩ := hzf e hze
                rw [hz2] at HCP
                have hlf : ∀ x ∈ Yd.map (·.1), ∀ e, x.f = some e → ∀ a b, (insN n a b e).length = lenN n e := fun x hx e he => by
                  obtain ⟨z', hz', rfl⟩ := List.mem_map.1 hx
                  have := (HSM.out z' (by rw [HY.out]; simp [hz'])).1
                  rcases this.flt with ⟨_, e', h1, h2⟩ | ⟨_, h1⟩
                  · rw [he] at h1; obtain rfl := Option.some.inj h1; exact insN_len n e h2
                  · rw [he] at h1; cases h1
                have hFD := flD_snoc_some hze (Yd.map (·.1)) hlf c.is.length W.length
                have hfl := flD_len n (Yd.map (·.1)) c.is.length W.length
                have hbd := HBD.out (Yd ++ [z]) Yr (by rw [HYG.out, HY.out]; simp)
                obtain ⟨D1, D2, hD⟩ : ∃ D1 D2, flD n c.is.length W.length (Yd.map (·.1)) = (D1, D2) := ⟨_, _, rfl⟩
                have hWl : (flW n (Yd.map (·.1))).length = Wk.length := by rw [← HWK.out.1, List.length_map]
                rw [hD] at M hFD hfl
                simp only at M hFD hfl
                rw [List.length_map] at hfl
                have hWT : (Wk ++ We).map (·.1) = flW n (Yd.map (·.1) ++ [z.1]) := by rw [List.map_append, flW_snoc, hze, HWK.out.1, hWe1]
                rw [List.map_append, List.map_cons, List.map_nil] at hbd
                rw [hFD, ← hWT, List.length_map, List.length_append, List.length_append, List.length_append, insN_len n e hwe, List.length_singleton] at hbd
                rw [hWl] at hFD
                obtain ⟨IS, hIS⟩ : ∃ IS, c.is ++ D2 = IS := ⟨_, rfl⟩
                have hISl : IS.length = c.is.length + D2.length := by rw [← hIS, List.length_append]
                rw [← hISl] at hFD
                obtain ⟨SQ, hSQ⟩ : ∃ SQ, c.ss ++ D1 ++ (z :: Yr).map (fun (z : SelT × Option Addr) => selD z.1 0) = SQ := ⟨_, rfl⟩
                obtain ⟨p, hp⟩ : ∃ p, c.ss.length + Yd.length = p := ⟨_, rfl⟩
                have hSp : SQ[p]? = some (selD z.1 0) := by
                  rw [← hSQ, ← hp, List.map_cons, List.getElem?_append_right (by rw [List.length_append]; omega), show c.ss.length + Yd.length - (c.ss ++ D1).length = 0 by rw [List.length_append]; omega]; rfl
                have hpl := (List.getElem?_eq_some_iff.1 hSp).1
                have hSs : SQ.set p (selD z.1 (IS.length : Int)) = c.ss ++ (D1 ++ [selD z.1 (IS.length : Int)]) ++ Yr.map (fun (z : SelT × Option Addr) => selD z.1 0) := by
                  rw [← hSQ, ← hp, List.map_cons, List.set_append_right _ _ (by rw [List.length_append]; omega), show c.ss.length + Yd.length - (c.ss ++ D1).length = 0 by rw [List.length_append]; omega, List.set_cons_zero]
                  simp
                have HSS2 := Lib.hid hSs
                have HFS := Lib.hid (flat_set selC 8 (fun _ => rfl) 7 (by omega) (.int .i64 (IS.length : Int)) (selD z.1 (IS.length : Int)) SQ p (selD z.1 0) hSp rfl)
                rw [hIS, hSQ] at M
                have hpj : p * 8 + 7 < SQ.length * 8 := by omega
                have hpI : (p : Int) < (SQ.length : Int) := by omega
                have hwr : IntKind.i64.wrap ((c.ss.length : Int) + (Yd.length : Int)) = (p : Int) := by rw [← hp]; exact IntWalk.i64_in _ (by omega)
                have HB1 := Lib.hid (show IS.length + lenN n e ≤ 999990 from by omega)
                have HB2 := Lib.hid (show (W ++ Wk).length + We.length ≤ 999990 from by rw [List.length_append]; omega)
                have HB3 := Lib.hid (show (IS ++ insN n IS.length (W ++ Wk).length e).length ≤ 999999 from by rw [List.length_append, insN_len n e hwe]; omega)
                have HFN := Lib.hid hFD
                have HWT := Lib.hid hWT
                have HWA := Lib.hid (show ∀ u ∈ Wk ++ We, TreeV w0 u from fun u hu => (List.mem_append.1 hu).elim (HWK.out.2 u) (hWe2 u))
                have HIS := Lib.hid hIS
                have HRA := Lib.hid hra
                have HBT := Lib.hid hbT
                have HKN := Lib.hid hkc
                unfold KidM at hKC
                have HKC := Lib.hid hKC
                clear hSQ hSp hSs hIS hISl hFD hfl hbd hD hWl hWT hlf hra hbT hkc hKC hWe1 hWe2 hz2 hk4 hze hwe hzw hzf hzq hp
                obtain ⟨v1, v2, v3, v4, v5, hM0⟩ := M.out
                unfold MkR at hM0
                obtain ⟨g3r, c3r, hv3, _⟩ := own_slice (n := SQ.length) (hM0.row (v3, _) (by repeat constructor)) (by omega)
                simp only at hv3
                subst hv3
                obtain ⟨A4, k4, hv4, _⟩ := own_reads (hM0.row (v4, _) (by repeat constructor))
                simp only at hv4
                subst hv4
                replace M := Lib.hid hM0
                clear hM0
                go_upto_region 23 with (first | ((with_reducible refine g_ld 45 ?_); refine l_ldc O_pex rfl (HCP.out _ M.out.now.2) ?_))
                replace M := Lib.hid M.out.drew
                refine tb (fun y => (J y ∧ Rdd y 1 (some ⟨bF, 0, none⟩) Y.length (Y.map (fun (z : SelT × Option Addr) => Value.pointer z.2))) ∧ Blk y g 71 #[v1, v2, .slice (some ⟨g3r, 0, none⟩) SQ.length c3r, .slice A4 IS.length k4, v5]) ⟨M.out.now, M.out.blk (g, _, _) (by repeat constructor)⟩ ?_
                refine tkp 0 rfl ⟨M.out.now, M.out.blk (g, _, _) (by repeat constructor)⟩ ?_
                refine tkp 1 rfl ⟨M.out.now, M.out.blk (g, _, _) (by repeat constructor)⟩ ?_
                refine tkp 2 rfl ⟨M.out.now, M.out.blk (g, _, _) (by repeat constructor)⟩ ?_
                refine tkp 3 rfl ⟨M.out.now, M.out.blk (g, _, _) (by repeat constructor)⟩ ?_
                refine tk 4 rfl ⟨M.out.now, M.out.blk (g, _, _) (by repeat constructor)⟩ (y_ld1 O_sCSel _ g 2 rfl _ _ (fun y h => h.2) _ rfl) ?_
                refine tkp 5 rfl ⟨M.out.now, M.out.blk (g, _, _) (by repeat constructor)⟩ ?_
                refine tkp 6 rfl ⟨M.out.now, M.out.blk (g, _, _) (by repeat constructor)⟩ ?_
                refine tkp 7 rfl ⟨M.out.now, M.out.blk (g, _, _) (by repeat constructor)⟩ ?_
                refine tkp 8 rfl ⟨M.out.now, M.out.blk (g, _, _) (by repeat constructor)⟩ ?_
                refine tkp 9 rfl ⟨M.out.now, M.out.blk (g, _, _) (by repeat constructor)⟩ ?_
                refine tkp 10 rfl ⟨M.out.now, M.out.blk (g, _, _) (by repeat constructor)⟩ ?_
                refine tkp 11 rfl ⟨M.out.now, M.out.blk (g, _, _) (by repeat constructor)⟩ ?_
                refine tk 12 rfl ⟨M.out.now, M.out.blk (g, _, _) (by repeat constructor)⟩ (y_ld1 O_sIns _ g 3 rfl _ _ (fun y h => h.2) _ rfl) ?_
                refine tkp 13 rfl ⟨M.out.now, M.out.blk (g, _, _) (by repeat constructor)⟩ ?_
                refine tkp 14 rfl ⟨M.out.now, M.out.blk (g, _, _) (by repeat constructor)⟩ ?_
                refine tkp 15 rfl ⟨M.out.now, M.out.blk (g, _, _) (by repeat constructor)⟩ ?_
                refine tr [16] ?_
                refine r_st1r O_int (v := .int .i64 (IS.length : Int)) (i := 16) rfl rfl rfl rfl M.out (by repeat constructor) hpj ?_ ?_
                · clear M; intro w' M; refine ⟨⟨M.out.now, M.out.blk (g, _, _) (by repeat constructor)⟩, tn ?_⟩
                  refine te ?_
                  replace M := Lib.hid (show MkS w0 _ g L rs _ ⟨PS, GS, SQ.set p (selD z.1 (IS.length : Int)), IS⟩ (W ++ Wk) from MkS.of M.out (by unfold MkR; dsimp only; rw [HFS.out, List.length_set]))
                  go_wp2_with (first | ((with_reducible refine g_ld 106 ?_); refine l_ldf F_Ex rfl (fun j v hv => (World.cell?_of_block (M.out.bel0.block b HBT.out)).trans (HRA.out j v hv)) HKN.out ?_) | (go_at_call 47; (with_reducible refine (HKC.out _ g L rs _ _ _ M.out HB1.out HB2.out).mono ?_); rintro e w' ⟨rfl, hm⟩; replace M := Lib.hid hm; clear hm) | (go_at_call 48; (with_reducible refine (mput_any g _ _ ⟨5, 0, 0, 0, 0, ⟨#[]⟩, 0⟩ _ M.out HB3.out).mono ?_); rintro e w' ⟨rfl, hm⟩; replace M := Lib.hid hm; clear hm))
                  go_roundg Yr.length
                  case measure => first | (rw [HGY.out]; simp; done) | (simp; done)
                  case rel => exact ⟨Yd ++ [z], Yr, Wk ++ We, rfl, Lib.hid (by rw [HY.out]; simp), by first | go_num | simp, Lib.hid ⟨by rw [show (Yd ++ [z]).map (·.1) = Yd.map (·.1) ++ [z.1] from by simp]; exact HWT.out, HWA.out⟩, Lib.hid (by
                      have h := M.out
                      rw [HSS2.out] at h
                      rw [List.map_append, List.map_cons, List.map_nil, HFN.out]
                      rw [← HIS.out] at h ⊢
                      rw [show opD 5 = (⟨5, 0, 0, 0, 0, ⟨#[]⟩, 0⟩ : InsD) from rfl]
                      simpa using h)⟩
                exact .nil
              · have hz2 := hzq hk4
                rw [hz2] at HCP
                have HN := Lib.hid (show flD n c.is.length W.length ((Yd ++ [z]).map (·.1)) = ((flD n c.is.length W.length (Yd.map (·.1))).1 ++ [selD z.1 0], (flD n c.is.length W.length (Yd.map (·.1))).2) from by rw [List.map_append]; exact flD_snoc_none hze _ _ _)
                have HNW := Lib.hid (show Wk.map (·.1) = flW n ((Yd ++ [z]).map (·.1)) from by rw [List.map_append, List.map_cons, List.map_nil, flW_snoc, hze, HWK.out.1, List.append_nil])
                clear hz2 hk4 hze hzw hzf hzq
                go_wp2_with (first | ((with_reducible refine g_ld 45 ?_); refine l_ldc O_pex rfl (HCP.out _ M.out.now.2) ?_))
                go_roundg Yr.length
                case measure => first | (rw [HGY.out]; simp; done) | (simp; done)
                case rel => exact ⟨Yd ++ [z], Yr, Wk, rfl, Lib.hid (by rw [HY.out]; simp), by first | go_num | simp, Lib.hid ⟨HNW.out, HWK.out.2⟩, Lib.hid (by
                    rw [HN.out]
                    have h := M.out
                    simpa using h)⟩
            | nil =>
              obtain rfl : Y = Yd := by simpa using HY.out
              have hnl : ¬ (Y.length : Int) < (Y.length : Int) := by omega
              go_wp2
              go_end0
              refine ⟨rfl, Wk, ?_, ?_⟩
              · have h := M.out.imp (J' := J) fun y h => h.1
                rw [← HPS.out, ← HGE.out] at h
                rw [HYG.out]
                rw [HGE.out, HGL.out, ← HGE.out] at h
                simpa using h
              · rw [HYG.out]; first | exact HWK.out | exact ⟨HWK.out.1, fun a b h => HWK.out.2 _ h⟩

end

end Go.Proofs.YtpcbcodmocmilaaGreatDoor
