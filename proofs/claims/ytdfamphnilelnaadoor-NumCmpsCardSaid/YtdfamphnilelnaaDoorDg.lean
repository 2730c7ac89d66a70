/- ref10: Of. -/
import Derived.Deep.LoopGhost
import Derived.Deep.RegionLaw
import Derived.Test.YtdfamphnilelnaaDoorDp
import Derived.Test.YtdfamphnilelnaaDoorNg1
namespace Go.Proofs.YtdfamphnilelnaaDoor
open Go.RowKit

theorem dig_of (k : Nat) (h : k < 10) : ((UInt8.ofNat (48 + k)).toNat : Int) - 48 = k := by rw [UInt8.toNat_ofNat']; omega
/-- The digits that are left. -/
def dL (u : Nat) : List Int := if u = 0 then [] else dI (Lib.decDigits u)
theorem dd_step (u : Nat) : dI (Lib.decDigits u) = dL (u / 10) ++ [((u % 10 : Nat) : Int)] := by
  rw [Lib.decDigits]
  split
  · rename_i h
    have e : u / 10 = 0 := by omega
    unfold dL dI
    rw [if_pos e]
    simp only [List.map_cons, List.map_nil, List.nil_append]
    rw [dig_of u h, show u % 10 = u by omega]
  · rename_i h
    unfold dL dI
    rw [if_neg (by omega), List.map_append]
    simp only [List.map_cons, List.map_nil]
    rw [dig_of _ (by omega)]
def ORel (n u : Nat) (B : List Int) : Prop := (B = [] ∧ u = n) ∨ (B ≠ [] ∧ dI (Lib.decDigits n) = dL u ++ B.reverse)
theorem ORel.step {n u : Nat} {B : List Int} (h : ORel n u B) (hu : u ≠ 0 ∨ B = []) : ORel n (u / 10) (B ++ [((u % 10 : Nat) : Int)]) := by
  right
  refine ⟨by simp, ?_⟩
  rw [List.reverse_append]
  rcases h with ⟨rfl, rfl⟩ | ⟨hb, h⟩
  · exact dd_step _
  · have hu : u ≠ 0 := hu.resolve_right hb
    rw [h, show dL u = dI (Lib.decDigits u) by unfold dL; rw [if_neg hu], dd_step]
    simp
theorem ORel.len {n u : Nat} {B : List Int} (h : ORel n u B) : B.length ≤ (Lib.decDigits n).length := by
  rcases h with ⟨rfl, _⟩ | ⟨_, h⟩
  · simp
  · have := congrArg List.length h
    rw [dI_len, List.length_append, List.length_reverse] at this
    omega
def OS (w wr : World) (m : Bool) (v : Value) (B : List Int) : Prop :=
  Blk wr (w.heap.size + 1) 47 #[.bool m, .slice none 0 0, .int .i64 0, .int .i64 0] ∧ Blk wr w.heap.size 47 #[.bool false, .slice none 0 0, .int .i64 0, .int .i64 0] ∧ wr.ownsRow (w.heap.size + 2) 3 1 v B.length (B.map (Value.int .i64)) ∧ Bel w.heap.size w wr
theorem OS.app {w wr w2 : World} {m : Bool} {B : List Int} {v v' : Value} {x : Int} {o : Obj} (hx : Blk wr (w.heap.size + 1) 47 #[.bool m, .slice none 0 0, .int .i64 0, .int .i64 0]) (hr : Blk wr w.heap.size 47 #[.bool false, .slice none 0 0, .int .i64 0, .int .i64 0]) (ho : wr.ownsRow (w.heap.size + 2) 3 1 v B.length (B.map (Value.int .i64))) (hb : Bel w.heap.size w wr)
    (hg : (wr.alloc o).grownBy w2 v.ownBlock) (ho2 : w2.ownsRow (w.heap.size + 2) 3 1 v' (B.length + 1) (B.map (Value.int .i64) ++ [.int .i64 x])) : OS w w2 m v' (B ++ [x]) := by
  have hne : ∀ k, v.ownBlock = some k → w.heap.size + 2 ≤ k := fun k hk => (World.ownsRow.lt ho k hk).1
  have hB := grown_bel (B := w.heap.size + 2) hg (by have := hx.lt; simp; omega) hne
  exact ⟨(hx.alloc o).bel hB (by omega), (hr.alloc o).bel hB (by omega), by simpa using ho2, (hb.alloc hb.size o).trans (hB.mono (by omega))⟩
/-- The digits back to front lie beside the number's own. -/
def RB (w : World) (A : Option Addr) (xs : List Value) (v : Value) (base : Nat) : Prop :=
  xs = [] ∨ ∃ b, A = some ⟨b, 0, none⟩ ∧ base ≤ b ∧ b < w.heap.size ∧ v.ownBlock ≠ some b ∧ ∀ i u, xs[i]? = some u → w.cell? ⟨b, 0 + i, none⟩ = some u
def XX (w wr : World) (m : Bool) (A : Option Addr) (B ds : List Int) : Prop :=
  ∃ v, Blk wr (w.heap.size + 1) 47 #[.bool m, v, .int .i64 0, .int .i64 0] ∧ Blk wr w.heap.size 47 #[.bool false, .slice none 0 0, .int .i64 0, .int .i64 0] ∧ wr.ownsRow (w.heap.size + 2) 3 1 v ds.length (ds.map (Value.int .i64)) ∧ Bel w.heap.size w wr ∧ RB wr A (B.map (Value.int .i64)) v (w.heap.size + 2)
theorem XX.start {w wr : World} {m : Bool} {A : Option Addr} {n c : Nat} {B : List Int} (h : OS w wr m (.slice A n c) B) : XX w wr m A B [] := by
  obtain ⟨hx, hr, ho, hb⟩ := h
  refine ⟨.slice none 0 0, hx, hr, World.ownsRow_nil _ _ _ _, hb, ?_⟩
  obtain ⟨A', c', e, _, hrd, hg⟩ := Rd.of_own ho
  injection e with e1 e2 e3
  subst e1
  rcases hrd with h | ⟨b, off, h1, h2, h3⟩
  · exact .inl h
  · rcases hg with hg | ⟨g, h4, h5⟩
    · injection hg with hg; rw [hg] at h1; cases h1
    · rw [h4] at h1
      injection h1 with h1; injection h1 with h6 h7
      subst h6; subst h7
      exact .inr ⟨g, h4, h5, h2, by simp [Value.ownBlock], h3⟩
theorem XX.app {w wr w2 : World} {m : Bool} {A : Option Addr} {B ds : List Int} {v v' : Value} {x : Int} {o : Obj} (hx : Blk wr (w.heap.size + 1) 47 #[.bool m, v, .int .i64 0, .int .i64 0]) (hr : Blk wr w.heap.size 47 #[.bool false, .slice none 0 0, .int .i64 0, .int .i64 0]) (ho : wr.ownsRow (w.heap.size + 2) 3 1 v ds.length (ds.map (Value.int .i64))) (hb : Bel w.heap.size w wr) (hrb : RB wr A (B.map (Value.int .i64)) v (w.heap.size + 2))
    (hg : (wr.alloc o).drew.grownBy w2 v.ownBlock) (hat : v'.ownBlock = v.ownBlock ∨ v'.ownBlock = some (wr.alloc o).drew.heap.size) (ho2 : w2.ownsRow (w.heap.size + 2) 3 1 v' (ds.length + 1) (ds.map (Value.int .i64) ++ [.int .i64 x])) :
    Blk w2 (w.heap.size + 1) 47 #[.bool m, v, .int .i64 0, .int .i64 0] ∧ XX w (w2.setCell ⟨w.heap.size + 1, 1, none⟩ v') m A B (ds ++ [x]) := by
  have hne : ∀ k, v.ownBlock = some k → w.heap.size + 2 ≤ k := fun k hk => (World.ownsRow.lt ho k hk).1
  have hsz : wr.heap.size + 1 = (wr.alloc o).drew.heap.size := by show _ = (wr.alloc o).heap.size; simp
  have hB := grown_bel (B := w.heap.size + 2) hg (by have := hx.lt; omega) hne
  have a := (show Blk (wr.alloc o).drew _ _ _ from hx.alloc o).bel hB (by omega)
  have b := (show Blk (wr.alloc o).drew _ _ _ from hr.alloc o).bel hB (by omega)
  refine ⟨a, v', a.set_ 1 _, b.far (by simp) _, ownsRow_set (by simpa using ho2) (by simp) _, (((hb.alloc hb.size o).drew).trans (hB.mono (by omega))).setCell (by simp) _, ?_⟩
  rcases hrb with h | ⟨g, h1, h2, h3, h4, h5⟩
  · exact .inl h
  · refine .inr ⟨g, h1, h2, ?_, ?_, fun i u hu => ?_⟩
    · have := hg.size
      show g < (w2.setCell _ _).heap.size
      simp [World.setCell]; omega
    · rcases hat with e | e
      · rw [e]; exact h4
      · rw [e]; intro e2; injection e2 with e2; omega
    · have e1 : (w2.setCell ⟨w.heap.size + 1, 1, none⟩ v').cell? ⟨g, 0 + i, none⟩ = w2.cell? ⟨g, 0 + i, none⟩ := World.cell?_setCell_other w2 _ _ v' (fun e => by injection e with e; omega)
      rw [e1, World.cell?_of_block (a := ⟨g, 0 + i, none⟩) (hg.block g (by omega) (fun e => h4 e.symm))]
      show (wr.alloc o).cell? _ = _
      rw [World.cell?_alloc_lt wr o _ (by show g < _; omega)]
      exact h5 i u hu
/-- What Of answers. -/
def OfP (w : World) (n : Int) (e : Ending) (w' : World) : Prop :=
  ∃ A c, e = .returned (numR (decide (n < 0)) A (dI (natD n)) c (dI (natD n)).length 0) ∧ Rd w' A ((dI (natD n)).map (Value.int .i64)) ∧ Bel w.heap.size w w'

theorem OfP.mk {w w' : World} {n : Int} {m : Bool} {ds : List Int} {dl : Nat} {v : Value} (h1 : dI (natD n) = ds) (h2 : ds.length = dl) (h3 : decide (n < 0) = m) (ho : w'.ownsRow (w.heap.size + 2) 3 1 v dl (ds.map (Value.int .i64))) (hb : Bel w.heap.size w w') :
    OfP w n (.returned (.agg #[.bool m, v, .int .i64 (dl : Int), .int .i64 0])) w' := by
  subst h1; subst h2; subst h3
  obtain ⟨A, c, rfl, _, hr, _⟩ := Rd.of_own ho
  rw [List.length_map]
  exact ⟨A, c, rfl, hr, hb⟩
set_option maxRecDepth 100000 in
set_option maxHeartbeats 4000000 in
theorem of_any (n : Int) (w : World) (n0 : -9223372036854775808 ≤ n) (n1 : n ≤ 9223372036854775807) :
    Calls Tryd.prog 22 #[.int .i64 n] w (OfP w n) := by
  obtain ⟨i0, hi, hz0, hz1, hz2⟩ := info_parts info_int
  obtain ⟨M, hM⟩ : ∃ M : Nat, M = n.natAbs := ⟨_, rfl⟩
  have hMb : M ≤ 9223372036854775808 := by omega
  have hML : (Lib.decDigits M).length ≤ 21 := by have := natD_len n n0 n1; unfold natD at this; rw [hM]; exact this
  obtain ⟨m, hm⟩ : ∃ m, decide (n < 0) = m := ⟨_, rfl⟩
  have HMM := Lib.hid hm
  have HDS := Lib.hid (show dI (natD n) = dI (Lib.decDigits M) by unfold natD; rw [hM])
  go_enter Tryd.func22, Tryd.ntmps22
  generalize hQ : bodyPost Tryd.prog Tryd.f22 (OfP w n) = Q
  have HQ := Lib.hid hQ; clear hQ
  let qd := bodyPost Tryd.prog Tryd.f22 (OfP w n)
  go_upto_region 2 with fail
  clear hm
  have HS := Lib.hid (show OS w ((w.alloc (.cells #[.bool false, .slice none 0 0, .int .i64 0, .int .i64 0] 47)).alloc (.cells #[.bool m, .slice none 0 0, .int .i64 0, .int .i64 0] 47)) m (.slice none 0 0) [] from ⟨Blk.new1 _ _ _ _, (Blk.new _ _ _).alloc _, World.ownsRow_nil _ _ _ _, ((Bel.refl _ _).alloc (Nat.le_refl _) _).alloc (by simp) _⟩)
  go_wp2
  go_loopg [0, 4, 5] (M + 1) (fun g c v _ wr => ∃ (u : Nat) (cc : Int) (B : List Int), g = (if B = [] then u + 1 else u) ∧ c = .int .i64 cc ∧ (cc = u ∨ cc = -(u : Int)) ∧ u ≤ 9223372036854775808 ∧ -9223372036854775808 ≤ cc ∧ cc ≤ 9223372036854775807 ∧ Hid (ORel M u B) ∧ Hid (OS w wr m v B))
  case atStart => exact ⟨M, n, [], by simp, rfl, by omega, hMb, n0, n1, Lib.hid (.inl ⟨rfl, rfl⟩), HS⟩
  case round =>
    clear HS
    obtain ⟨u, cc, B, hg, rfl, hcc, hub, hc0, hc1, HR, HO1⟩ := hrel
    have HG := Lib.hid hg; clear hg
    obtain ⟨hx, hr, ho, hb⟩ := HO1.out
    obtain ⟨Av, cv, hv, _⟩ := Rd.of_own ho
    rw [List.length_map] at hv
    subst hv
    obtain ⟨xsz, ⟨x0, x1, x2, x3⟩, y0, y1, y2, y3⟩ := hx.four
    have HO := Lib.hid ho; have HB := Lib.hid hb; have HBX := Lib.hid hx; have HBR := Lib.hid hr
    have hbz := hb.size
    clear hx hr ho hb
    have hBl : B.length ≤ 21 := Nat.le_trans HR.out.len hML
    by_cases hstop : u = 0 ∧ B ≠ []
    · have hcc0 : cc = 0 := by omega
      have HF := Lib.hid (show dI (Lib.decDigits M) = B.reverse by
        rcases HR.out with ⟨e, _⟩ | ⟨_, h⟩
        · exact absurd e hstop.2
        · rw [h, hstop.1]; rfl)
      have hBp : 1 ≤ B.length := by
        rcases Nat.eq_zero_or_pos B.length with e | e
        · exact absurd (List.eq_nil_of_length_eq_zero e) hstop.2
        · exact e
      have hb0 : ((B.length : Int) == 0) = false := beq_eq_false_iff_ne.2 (by omega)
      subst hcc0
      clear hstop hcc HG HR hub hc0 hc1
      go_wp2
      go_loopw [6] (fun i wr => ∃ k : Nat, k ≤ B.length ∧ i = .int .i64 ((B.length : Int) - 1 - k) ∧ Hid (XX w wr m Av B (B.reverse.take k))) (fun i _ => (intOf i + 1).toNat)
      case atStart => exact ⟨0, by omega, by go_num, Lib.hid (XX.start HO1.out)⟩
      case round =>
        clear HO1 HO HB HBX HBR xsz x0 x1 x2 x3 y0 y1 y2 y3 hbz
        obtain ⟨k, hk, rfl, HX⟩ := hrel
        by_cases hlt : k < B.length
        · obtain ⟨j, hj⟩ : ∃ j : Nat, j + k + 1 = B.length := ⟨B.length - 1 - k, by omega⟩
          have hjl : j < B.length := by omega
          have hrl : k < B.reverse.length := by rw [List.length_reverse]; exact hlt
          have HSN := Lib.hid (show B.reverse.take (k + 1) = B.reverse.take k ++ [B[j]] by
            rw [List.take_succ_eq_append_getElem hrl, List.getElem_reverse]
            congr 2
            simp only [show B.length - 1 - k = j by omega])
          obtain ⟨v, hx, hr, ho, hb, hrb⟩ := HX.out
          obtain ⟨xsz, ⟨x0, x1, x2, x3⟩, y0, y1, y2, y3⟩ := hx.four
          have HO := Lib.hid ho; have HB := Lib.hid hb; have HBX := Lib.hid hx; have HBR := Lib.hid hr; have HRB := Lib.hid hrb
          have hbz := hb.size
          clear hx hr ho hb hrb
          obtain ⟨b, rfl, hb2, hblt, hbne, hc⟩ := HRB.out.resolve_left (by intro e; rw [List.map_eq_nil_iff] at e; rw [e] at hlt; simp at hlt)
          have hc1 := hc j (.int .i64 B[j]) (by simp [hjl])
          simp only [Nat.zero_add] at hc1
          generalize B[j] = y at *
          have hjn : ((B.length : Int) - 1 - k).toNat = j := by omega
          have hj0 : 0 ≤ (B.length : Int) - 1 - k := by omega
          have hj1 : (B.length : Int) - 1 - k < B.length := by omega
          have hdl : (B.reverse.take k).length ≤ 21 := by rw [List.length_take, List.length_reverse]; omega
          clear hc hbne
          go_wp2
          have hQ := HQ.out; subst hQ; clear HQ
          go_region_law ((refine step_append_any _ (by rfl) _ _ _ (by rfl) (w.heap.size + 2) 3 i0 (.int .i64 0) 1 8 Tryd.underlying45 hi hz0 hz1 hz2 (by rfl) (by decide) v _ _ (by rfl) (World.ownsRow.drew (HO.out.alloc _)) (wr.heap.size + 1) (some ⟨wr.heap.size, 0, none⟩) 1 1 [.int .i64 y] (by rfl) ⟨rfl, fun _ => ⟨_, rfl, by show wr.heap.size < _; omega, fun j u hu => cell_one_new wr (.int .i64 y) 3 j u hu⟩⟩ (by simp [Value.oneCell']) (by unfold maxLen; omega) (by omega) (by simp; omega) ?_; intro v' w2 hown2 hg2 hat2; obtain ⟨A2, c2, rfl, _⟩ := Rd.of_own hown2; have HA := Lib.hid (XX.app HBX.out HBR.out HO.out HB.out HRB.out hg2 hat2 hown2); clear hown2 hg2 hat2 x0 x1 x2 x3 y0 y1 y2 y3 xsz; obtain ⟨xsz, ⟨x0, x1, x2, x3⟩, y0, y1, y2, y3⟩ := HA.out.1.four))
          all_goals
            go_wp2
            go_roundw
            case rel => exact ⟨k + 1, by omega, by go_num, Lib.hid (by have hlk : (B.reverse.take k).length = k := by { rw [List.length_take, List.length_reverse]; omega }; have h := HA.out.2; simp only [List.length_append, List.length_map, List.length_cons, List.length_nil, Nat.zero_add, hlk] at h; rw [HSN.out]; exact h)⟩
            case measure => simp [intOf]; omega
        · have hkL : k = B.length := by omega
          obtain ⟨ds, hds⟩ : ∃ ds, dI (natD n) = ds := ⟨_, rfl⟩
          have HX2 := Lib.hid (show XX w wr m Av B ds by
            have h := HX.out
            rw [hkL, List.take_of_length_le (by rw [List.length_reverse]; omega), ← HF.out, ← HDS.out, hds] at h
            exact h)
          have hdl0 : ds.length ≤ 21 := by rw [← hds, HDS.out, dI_len]; exact hML
          clear HX hkL HF HDS
          have HDD := Lib.hid hds; clear hds
          obtain ⟨v, hx, hr, ho, hb, hrb⟩ := HX2.out
          obtain ⟨xsz, ⟨x0, x1, x2, x3⟩, y0, y1, y2, y3⟩ := hx.four
          have HO := Lib.hid ho; have HB := Lib.hid hb; have HBX := Lib.hid hx; have HBR := Lib.hid hr; have HRB := Lib.hid hrb
          have hbz := hb.size
          clear hx hr ho hb hrb
          clear HRB
          obtain ⟨A2, c2, hv2, _⟩ := Rd.of_own HO.out
          rw [List.length_map] at hv2
          obtain ⟨dl, hdl⟩ : ∃ dl, ds.length = dl := ⟨_, rfl⟩
          rw [hdl] at hv2 HO hdl0
          subst hv2
          have HDL := Lib.hid hdl; clear hdl
          obtain ⟨rsz, ⟨r0, r1, r2, r3⟩, q0, q1, q2, q3⟩ := HBR.out.four
          go_wp2
          (try rw [← HQ.out])
          obtain ⟨W9, hW9, zsz, ⟨z0, z1, z2, z3⟩, hO9, hB9⟩ := XS.done1 (m := m) (pt := (dl : Int)) (ex := 0) (HBR.out.far (by simp) (.int .i64 (dl : Int))) (ownsRow_set HO.out (p := ⟨w.heap.size + 1, 2, none⟩) (by simp) (.int .i64 (dl : Int))) (HB.out.setCell (p := ⟨w.heap.size + 1, 2, none⟩) (by simp) _)
          rw [← hW9]
          have HO9 := Lib.hid hO9; have HB9 := Lib.hid hB9; clear hW9 hO9 hB9
          refine bodyPost_ret (v := .agg #[.bool m, .slice A2 dl c2, .int .i64 (dl : Int), .int .i64 0]) (by simp [results, Tryd.results22, go_sem, z0, z1, z2, z3, zsz]) rfl ?_
          exact OfP.mk HDD.out HDL.out HMM.out HO9.out HB9.out
    · have hgo : u ≠ 0 ∨ B = [] := by
        by_cases h : u = 0
        · exact .inr (Decidable.byContradiction fun e => hstop ⟨h, e⟩)
        · exact .inl h
      have hR2 := HR.out.step hgo
      obtain ⟨q, hq⟩ : ∃ q, u % 10 = q := ⟨_, rfl⟩
      obtain ⟨u2, hu2⟩ : ∃ u2, u / 10 = u2 := ⟨_, rfl⟩
      rw [hq, hu2] at hR2
      have HR2 := Lib.hid hR2; clear hR2
      have hq9 : q ≤ 9 := by omega
      have hu2b : u2 ≤ u := by omega
      have HME := Lib.hid (show u2 < (if B = [] then u + 1 else u) by
        split
        · omega
        · rename_i h; have := hgo.resolve_right h; omega)
      have hpos : ((u : Int).tmod 10 = (q : Int)) ∧ ((u : Int).tdiv 10 = (u2 : Int)) := by
        rw [Int.tmod_eq_emod_of_nonneg (by omega), Int.tdiv_eq_ediv_of_nonneg (by omega)]; omega
      have hneg : ((-(u : Int)).tmod 10 = -(q : Int)) ∧ ((-(u : Int)).tdiv 10 = -(u2 : Int)) := by
        rw [Int.neg_tmod, Int.neg_tdiv, hpos.1, hpos.2]; exact ⟨rfl, rfl⟩
      have htest : (cc != 0) = false → ((B.length : Int) == 0) = true := by
        intro h
        have h0 : u = 0 := by have := bne_eq_false_iff_eq.1 h; omega
        have hB := hgo.resolve_left (by omega)
        rw [hB]; rfl
      clear hstop hgo HR
      obtain ⟨tb, htb⟩ : ∃ tb, (cc != 0) = tb := ⟨_, rfl⟩
      rw [htb] at htest
      have hccr : (cc.tmod 10 = (q : Int) ∧ cc.tdiv 10 = (u2 : Int)) ∨ (cc.tmod 10 = -(q : Int) ∧ cc.tdiv 10 = -(u2 : Int)) := by
        rcases hcc with h | h
        · rw [h]; exact .inl hpos
        · rw [h]; exact .inr hneg
      clear hpos hneg hcc
      obtain ⟨rm, hrm⟩ : ∃ rm, cc.tmod 10 = rm := ⟨_, rfl⟩
      obtain ⟨qo, hqo⟩ : ∃ qo, cc.tdiv 10 = qo := ⟨_, rfl⟩
      rw [hrm, hqo] at hccr
      have hrb : -9 ≤ rm ∧ rm ≤ 9 := by omega
      have hqb : -9223372036854775808 ≤ qo ∧ qo ≤ 9223372036854775807 := by omega
      obtain ⟨hrb0, hrb1⟩ := hrb
      obtain ⟨hqb0, hqb1⟩ := hqb
      have HCR := Lib.hid hccr; clear hccr
      have hR0 := htest
      clear htest
      cases tb
      all_goals
        (try have hb0 := hR0 rfl)
        clear hR0
        go_upto_if 20 with fail
        go_cut [5] (fun v wx => v = .int .i64 (q : Int) ∧ wx = wr)
        case first =>
          by_cases hneg : rm < 0
          · have hq' : -rm = (q : Int) := by have := HCR.out; omega
            go_wp2
            go_meet
            case rel => first | exact ⟨rfl, rfl⟩ | exact ⟨congrArg (Value.int .i64) hq', rfl⟩
          · have hq' : rm = (q : Int) := by have := HCR.out; omega
            go_wp2
            go_meet
            case rel => first | exact ⟨rfl, rfl⟩ | exact ⟨congrArg (Value.int .i64) hq', rfl⟩
        case rest =>
          obtain ⟨rfl, rfl⟩ := hcut
          go_wp2_with (at_builtin; refine wpList_append_any _ rfl (.tmp 23) (.tmp 25) 45 rfl (w.heap.size + 2) 3 i0 (.int .i64 0) 1 8 Tryd.underlying45 hi hz0 hz1 hz2 rfl (by decide) _ _ _ rfl (HO.out.alloc _) (wc.heap.size + 1) (some ⟨wc.heap.size, 0, none⟩) 1 1 [.int .i64 (q : Int)] rfl ⟨rfl, fun _ => ⟨_, rfl, by show wc.heap.size < _; omega, cell_one_new _ _ _⟩⟩ (by simp [Value.oneCell']) (by unfold maxLen; omega) (by omega) (by have := xsz; simp; omega) ?_; intro v4 w4 hown4 hg4 hat4; have HN4 := Lib.hid (OS.app HBX.out HBR.out HO.out HB.out hg4 hown4); clear hown4 hg4 hat4)
          go_roundg u2
          case measure => rw [HG.out]; exact HME.out
          case rel => exact ⟨u2, qo, B ++ [(q : Int)], by rw [if_neg (by simp)], rfl, by have := HCR.out; omega, by omega, hqb0, hqb1, HR2, HN4⟩

end Go.Proofs.YtdfamphnilelnaaDoor
