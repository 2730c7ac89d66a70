/- RG47: Cm, Yf, Yg, Yh, Yi, Yj, Ym, Yl, Yn, Yo, Wc, Xa, Xb, Xc, Xd, Xe, Xf, Xg, Xh, Xi, Xj, Yp, Co, Zg, Zh joined. -/
import Derived.Deep.LoopGhost
import Derived.LoopTactic
import Derived.Handy
import Derived.Deep.RegionWith
import Derived.Deep.QuietTactic
import Derived.Test.YtpcbcodmocmilaaGreatDoorRG42
import Derived.Test.YtpcbcodmocmilaaGreatDoorRG23
import Derived.Test.YtpcbcodmocmilaaGreatDoorRG17
import Derived.Test.YtpcbcodmocmilaaGreatDoorRG03
import Derived.Test.YtpcbcodmocmilaaGreatDoorRG04
import Derived.Test.YtpcbcodmocmilaaGreatDoorRG32
import Derived.Test.YtpcbcodmocmilaaGreatDoorRG25
import Derived.Test.YtpcbcodmocmilaaGreatDoorRZf
import Derived.Test.YtpcbcodmocmilaaGreatDoorRG20
namespace Go.Proofs.YtpcbcodmocmilaaGreatDoor
open Go.RowKit
/- ref19: Make (printed by gen_cm.py). -/
section
open Go.RowKit

section
variable {X : List Nat} {w0 w w' : World} {L : List BlkE} {rs : List RowE} {J : World → Prop} {A1 A2 A3 A4 A5 B1 B2 B3 B4 B5 : Option Addr} {c : CodeD} {W : List (PathT × Value)}
end
theorem Own.swap {X : List Nat} {w0 w : World} {x z : BlkE} {L : List BlkE} {rs : List RowE} {J : World → Prop} (M : Own X w0 w (x :: z :: L) rs J) : Own X w0 w (z :: x :: L) rs J := by
  have hp : (exO (x :: z :: L) rs).Perm (exO (z :: x :: L) rs) := by
    unfold exO
    simp only [List.map_cons, List.cons_append]
    exact List.Perm.swap _ _ _
  have hm : ∀ a, a ∈ z :: x :: L → a ∈ x :: z :: L := fun a h => (List.Perm.swap x z L).mem_iff.1 h
  exact ⟨M.os, M.output, M.size, M.out, fun a h => M.low a (hm a h), fun a h => M.blk a (hm a h), M.row, hp.nodup_iff.1 M.nodup, fun y hy => M.always y ⟨hy.1, fun b h1 h2 => hy.2 b h1 fun h => h2 (hp.mem_iff.2 h)⟩⟩
section
variable {S : List UInt8 → Prop} {n : Nat}
theorem wt_len (l : List PathT) : l.length ≤ (l.map (wtP (wtN n))).sum := len_le_sum _ _ fun x _ => by unfold wtP; omega
end

theorem make_step {S : List UInt8 → Prop} {c : CodeD} {W Wn : List (PathT × Value)} {z : PathT × Value} {r : List PathT} {p : PathT} (h1 : Wn.map (·.1) = flW 200 (selsOf z.1.segs)) (hd : (W.map (·.1)).drop c.ps.length = z.1 :: r) (h : makeL 200 (5000 - c.ps.length) c ((W.map (·.1)).drop c.ps.length) = codeT p ∧ c.ps.length ≤ W.length ∧ szC c + (((W.map (·.1)).drop c.ps.length).map (wtP (wtN 200))).sum ≤ 5000) (hwf : WfP S (WfN S 200) z.1) :
    makeL 200 (5000 - (layP 200 W.length c z.1).ps.length) (layP 200 W.length c z.1) (((W ++ Wn).map (·.1)).drop (layP 200 W.length c z.1).ps.length) = codeT p ∧ (layP 200 W.length c z.1).ps.length ≤ (W ++ Wn).length ∧ szC (layP 200 W.length c z.1) + ((((W ++ Wn).map (·.1)).drop (layP 200 W.length c z.1).ps.length).map (wtP (wtN 200))).sum ≤ 5000 := by
  obtain ⟨h2, h3, h4⟩ := h
  have h5 : (layP 200 W.length c z.1).ps.length = c.ps.length + 1 := by simp [layP]
  have hl : W.length = c.ps.length + 1 + r.length := by
    have := congrArg List.length hd
    simp at this; omega
  have h6 : ((W ++ Wn).map (·.1)).drop (c.ps.length + 1) = r ++ flW 200 (selsOf z.1.segs) := by
    rw [List.map_append, h1, List.drop_append_of_le_length (by rw [List.length_map]; omega), ← List.drop_drop, hd]; rfl
  have h7 := lay_size c z.1 W.length hwf
  have h8 : 1 ≤ wtP (wtN 200) z.1 := by unfold wtP; omega
  have h9 : c.ps.length ≤ szC c := by unfold szC; omega
  rw [hd, List.map_cons, List.sum_cons] at h4
  rw [hd, show 5000 - c.ps.length = (5000 - (c.ps.length + 1)) + 1 by omega, makeL, ← hl] at h2
  rw [h5, h6]
  refine ⟨h2, by rw [List.length_append]; omega, ?_⟩
  rw [List.map_append, List.sum_append]
  omega

end
/- ref17: number in one contract; sel, where it is an index (printed by gen_rnum.py). -/
section
open Go.RowKit

section
variable (A : Option Addr) (all : List TokD) (c k : Nat) (E : Int) (P : Nat → PSt → ExprT × PSt) (t : PSt) (d : Nat) (dp : Int) (w : World)

end

end
/- ref17: sel, slices and filters; sel whole (printed by gen_yg.py). -/
section
open Go.RowKit

section
variable (A : Option Addr) (all : List TokD) (c k : Nat) (E : Int) (P : Nat → PSt → ExprT × PSt) (t : PSt) (d : Nat) (dp : Int) (w : World)

theorem SelC.own {w W : World} {m g : Nat} {T : TypeId} {x : ExprT} {cs : Array Value} (hb : Blk W g T cs) (hg : w.heap.size ≤ g) (hn : cs.size = 17) (h : ExR (Fr w) m W cs.toList x) : SelC (Fr w) (ExR (Fr w) m W) W (selL ⟨4, [], 0, 0, 0, 0, false, false, some x⟩ (.pointer (some ⟨g, 0, none⟩))) ⟨4, [], 0, 0, 0, 0, false, false, some x⟩ :=
  ⟨_, rfl, g, 0, cs.toList, rfl, hg, hb.lt, by simpa using hn, fun j u hu => by rw [Nat.zero_add, hb.cell j]; simpa using hu, h⟩

end

end
/- ref17: rows of elements; sels (printed by gen_yh.py). -/
section
open Go.RowKit

section
variable {X : List Nat} {w0 w : World} {L L' : List BlkE} {rs : List RowE} {J S : World → Prop} {ops : Array Oper} {rest : List Oper} {a : Act} {Q : Exit → Act → World → Prop} {md : Region.Mode} {fuel i : Nat} {listed : Array Bool} {is : List Nat} {dst : Option Tmp} {tt : TypeId} {pos : String} {af : Array Edge}
end
section
variable (A : Option Addr) (all : List TokD) (c k : Nat) (E : Int) (P : Nat → PSt → ExprT × PSt) (t : PSt) (d : Nat) (dp : Int) (w : World)

end

end
/- ref17: seg (printed by gen_yi.py). -/
section
open Go.RowKit

section
variable {X : List Nat} {w0 w : World} {L L' : List BlkE} {rs : List RowE} {J S : World → Prop} {ops : Array Oper} {rest : List Oper} {a : Act} {Q : Exit → Act → World → Prop} {dst : Option Tmp} {tt : TypeId} {pos : String} {af : Array Edge}
end
section
variable {X : List Nat} {w0 w : World} {L : List BlkE} {rs : List RowE} {J : World → Prop} {ops : Array Oper} {rest : List Oper} {a : Act} {Q : Exit → Act → World → Prop} {dst : Option Tmp} {tt : TypeId} {pos : String} {af : Array Edge}
end
theorem RowG.own {α : Type} {K : Nat → Prop} {k : Nat} {R : List Value → α → Prop} {W : World} {g : Nat} {T : TypeId} {cs : Array Value} {x : α} (hb : Blk W g T cs) (hg : K g) (hn : cs.size = k) (h : R cs.toList x) : RowG K k R W (.slice (some ⟨g, 0, none⟩) 1 1) [x] := by
  refine ⟨_, 1, rfl, ⟨by simp, by omega⟩, .inr ⟨g, 0, rfl, hg, hb.lt, fun i y hy => ?_⟩⟩
  cases i with
  | zero =>
    cases hy
    exact ⟨cs.toList, by simpa using hn, fun j u hu => by rw [show 0 + 0 * k + j = j by omega, hb.cell j]; simpa using hu, h⟩
  | succ i => simp at hy
section
variable (A : Option Addr) (all : List TokD) (c k : Nat) (E : Int) (P : Nat → PSt → ExprT × PSt) (t : PSt) (d : Nat) (dp : Int) (w : World)

end

end
/- ref17: path (printed by gen_yj.py). -/
section
open Go.RowKit

section
variable (A : Option Addr) (all : List TokD) (c k : Nat) (E : Int) (P : Nat → PSt → ExprT × PSt) (t : PSt) (d : Nat) (dp : Int) (w : World)

end

end
/- ref17: Singular, side (printed by gen_ym.py). -/
section
open Go.RowKit

section
variable {X : List Nat} {w0 w : World} {L L' : List BlkE} {rs : List RowE} {J S : World → Prop} {ops : Array Oper} {rest : List Oper} {o : Oper} {a : Act} {Q : Exit → Act → World → Prop} {md : Region.Mode} {fuel i : Nat} {listed : Array Bool} {is : List Nat} {dst : Option Tmp} {tt : TypeId} {pos : String} {af : Array Edge}
end
section
variable {X : List Nat} {w0 w : World} {L : List BlkE} {rs : List RowE} {J : World → Prop} {ops : Array Oper} {rest : List Oper} {a : Act} {Q : Exit → Act → World → Prop} {dst : Option Tmp} {tt : TypeId} {pos : String} {af : Array Edge}
end
section
variable {X : List Nat} {w0 w : World} {L L' : List BlkE} {rs : List RowE} {J : World → Prop} {ops : Array Oper} {rest : List Oper} {a : Act} {Q : Exit → Act → World → Prop} {dst : Option Tmp} {tt : TypeId} {pos : String} {af : Array Edge}
end
section
variable (A : Option Addr) (all : List TokD) (c k : Nat) (E : Int) (P : Nat → PSt → ExprT × PSt) (t : PSt) (d : Nat) (dp : Int) (w : World)

end

end
/- ref17: and, or (printed by gen_yl.py). -/
section
open Go.RowKit

section
variable (A : Option Addr) (all : List TokD) (c k : Nat) (E : Int) (F : PSt → ExprT × PSt) (t : PSt) (d : Nat) (dp : Int) (w : World)

end

end
/- ref17: cmp (printed by gen_yn.py). -/
section
open Go.RowKit

section
variable {X : List Nat} {w0 w : World} {L L' : List BlkE} {rs : List RowE} {J S : World → Prop} {ops : Array Oper} {rest : List Oper} {a : Act} {Q : Exit → Act → World → Prop} {dst : Option Tmp} {tt : TypeId} {pos : String} {af : Array Edge} {gd : Option (Nat × Bool)}
end
section
variable (A : Option Addr) (all : List TokD) (c k : Nat) (E : Int) (P : Nat → PSt → ExprT × PSt) (t : PSt) (d : Nat) (dp : Int) (w : World)

section
variable {X : List Nat} {w0 w : World} {L : List BlkE} {rs : List RowE} {J S : World → Prop} {ops : Array Oper} {a : Act} {Q : Exit → Act → World → Prop} {md : Region.Mode} {fuel i : Nat} {listed : Array Bool} {is : List Nat} {dst : Option Tmp} {tt : TypeId} {pos : String} {af : Array Edge}
end


end

end
/- ref17: one, and expressions whole (printed by gen_yo.py). -/
section
open Go.RowKit

section
variable (A : Option Addr) (all : List TokD) (c k : Nat) (E : Int) (P : Nat → PSt → ExprT × PSt) (t : PSt) (d : Nat) (dp : Int) (w : World)

end
section
variable (A : Option Addr) (all : List TokD) (c k : Nat) (E : Int) (P : Nat → PSt → ExprT × PSt) (t : PSt) (d : Nat) (dp : Int) (w : World)
end
end
/- ref09: Scalar (as Kb, over A0). -/
section
open Go.RowKit

end
/- ref09's Scalar and Put in the words of the ranges; plain. -/
section
open Go.RowKit

end
/- ref16: hex, unit. -/
section
open Go.RowKit

end
/- ref16: char. -/
section
open Go.RowKit

end
/- ref16: text. -/
section
open Go.RowKit

end
/- ref16: Name, digits. -/
section
open Go.RowKit

end
/- ref16: token: strings, names. -/
section
open Go.RowKit

end
/- ref16: token: numbers. -/
section
open Go.RowKit

end
/- ref16: token: signs. -/
section
open Go.RowKit

end
/- ref16: token, blank, Lex. -/
section
open Go.RowKit

end
/- ref16: Lex, walked. -/
section
open Go.RowKit

end
/- ref17: Parse (printed by gen_yp.py). -/
section
open Go.RowKit

section
variable {X : List Nat} {w0 w : World} {L L' : List BlkE} {rs : List RowE} {J S : World → Prop} {ops : Array Oper} {rest : List Oper} {o : Oper} {a : Act} {Q : Exit → Act → World → Prop} {md : Region.Mode} {fuel i : Nat} {listed : Array Bool} {is : List Nat} {dst : Option Tmp} {tt : TypeId} {pos : String} {af : Array Edge}
end
section
variable {X : List Nat} {w0 w : World} {L : List BlkE} {rs : List RowE} {J : World → Prop} {ops : Array Oper} {rest : List Oper} {a : Act} {Q : Exit → Act → World → Prop} {dst : Option Tmp} {tt : TypeId} {pos : String} {af : Array Edge}
end
section
variable {S : World → Prop} {ops : Array Oper} {a : Act} {dst : Option Tmp} {tt : TypeId} {pos : String} {af : Array Edge} {w : World}
end
end
/- ref19: Query (printed by gen_co.py). -/
section
open Go.RowKit

theorem F_Flt : TyF Tryz.prog 31 2 #[.int .i64 0, .int .i64 0] := ⟨⟨_, Tryz.underlying31, rfl⟩, by kernel_rfl, by kernel_rfl⟩
theorem O_errno : OneF Tryz.prog 29 := ⟨⟨_, Tryz.underlying29, rfl⟩, by kernel_rfl⟩
theorem results_2T {P : Program} {fn : Func} {p q : Tmp} {ty uy : TypeId} (h : fn.results = #[.cell p ty, .cell q uy]) (tmps : Array Value) (w : World) (g k : Nat) (T U : TypeId) (cs ds : Array Value) (hp : tmps.getD p undef = .pointer (some ⟨g, 0, none⟩)) (hq : tmps.getD q undef = .pointer (some ⟨k, 0, none⟩)) (hg : Blk w g T cs) (hk : Blk w k U ds) {n m : Nat} {z z' : Array Value} (F : TyF P ty n z) (G : TyF P uy m z') (hn : cs.size = n) (hm : ds.size = m) :
    (results fn tmps).run P w = .ok (.tuple #[.agg cs, .agg ds]) w := by
  obtain ⟨d, hu, hd⟩ := F.u
  obtain ⟨d', hu', hd'⟩ := G.u
  exact results_2 h tmps g k T U cs ds d d' hp hq hg hk hu hd hu' hd' n m F.s hn G.s hm

/-- Code that lies in memory. -/
structure CRd (y : World) (c : CodeD) (A1 A2 A3 A4 : Option Addr) : Prop where
  p : Rdd y 3 A1 c.ps.length (c.ps.flatMap pathC)
  g : Rdd y 3 A2 c.gs.length (c.gs.flatMap segC)
  s : Rdd y 8 A3 c.ss.length (c.ss.flatMap selC)
  i : Rdd y 7 A4 c.is.length (c.is.flatMap insC)
end
/- code: path of whatever tree, Make (printed by gen_zg.py). -/
section
open Go.RowKit

section
variable {S : List UInt8 → Prop} {w0 : World} {n : Nat}
theorem selM_of {m : Nat} {cs : List Value} {x : SelT} (h : SelC (Lw w0) (ExR (Lw w0) m w0) w0 cs x) (hx : WfS S (WfN S n) x) : ∃ q : Option Addr, cs = yC (x, q) ∧ FltM w0 n (x, q) ∧ (x.kind ≠ 4 → q = none) := by
  obtain ⟨pv, rfl, hp⟩ := h
  cases hf : x.f with
  | none =>
    rw [hf] at hp
    refine ⟨none, by rw [show pv = .pointer none from hp]; rfl, fun e he => ?_, fun _ => rfl⟩
    have he : x.f = some e := he
    rw [hf] at he; cases he
  | some e =>
    rw [hf] at hp
    obtain ⟨b, off, cs, rfl, hK, hb, hl, hcs, hr⟩ := hp
    have hw : WfN S n e ∧ x.kind = 4 := by
      rcases hx.flt with ⟨h4, e', h1, h2⟩ | ⟨_, h1⟩
      · rw [hf] at h1; obtain rfl := Option.some.inj h1; exact ⟨h2, h4⟩
      · rw [hf] at h1; cases h1
    obtain ⟨W, w1, w2, w3, _, w4⟩ := mexpr_all S w0 n e hw.1 m cs hr
    refine ⟨some ⟨b, off, none⟩, rfl, fun e2 he => ?_, fun hk => absurd hw.2 hk⟩
    have he : x.f = some e2 := he
    rw [hf] at he
    obtain rfl := Option.some.inj he
    exact ⟨b, off, cs, W, rfl, hb, hl, hcs, w1, w2, w4⟩
theorem segdM_of {m : Nat} {cs : List Value} {s : SegT} (h : SegC (Lw w0) (ExR (Lw w0) m w0) w0 cs s) (hs : ∀ y ∈ s.sels, WfS S (WfN S n) y) : ∃ d : SgD, d.s = s ∧ cs = [.bool s.deep, .slice d.A d.Y.length d.c] ∧ d.Y.map (·.1) = s.sels ∧ Rdd w0 9 d.A d.Y.length (d.Y.flatMap yC) ∧ (∀ z ∈ d.Y, FltM w0 n z ∧ (z.1.kind ≠ 4 → z.2 = none)) ∧ (0 < d.Y.length → ∀ a, d.A = some a → a.spot = none) := by
  obtain ⟨sv, rfl, A, cap, rfl, _, h3⟩ := h
  rcases h3 with h0 | ⟨b, off, rfl, hb, hb2, hc⟩
  · refine ⟨⟨s, A, cap, []⟩, rfl, by rw [h0]; rfl, by rw [h0]; rfl, ?_, fun z hz => by simp at hz, fun h => absurd h (by simp)⟩
    exact ⟨rfl, fun h => absurd h (by simp)⟩
  · obtain ⟨Y, hY, hq⟩ := listOf (fun i (y : SelT × Option Addr) => s.sels[i]? = some y.1 ∧ (∀ (j : Nat) u, (yC y)[j]? = some u → w0.cell? ⟨b, off + i * 9 + j, none⟩ = some u) ∧ FltM w0 n y ∧ (y.1.kind ≠ 4 → y.2 = none)) s.sels.length fun i hi => by
      have hx := List.getElem?_eq_getElem hi
      obtain ⟨cs, h1, h2, h3⟩ := hc i _ hx
      obtain ⟨q, h4, h5, h6⟩ := selM_of h3 (hs _ (List.getElem_mem hi))
      exact ⟨(_, q), hx, by rw [← h4]; exact h2, h5, h6⟩
    have hk : Y.map (·.1) = s.sels := by
      refine List.ext_getElem? fun i => ?_
      rw [List.getElem?_map]
      by_cases hi : i < Y.length
      · rw [List.getElem?_eq_getElem hi]
        exact ((hq i _ (List.getElem?_eq_getElem hi)).1).symm
      · rw [List.getElem?_eq_none (by omega), List.getElem?_eq_none (by omega)]; rfl
    refine ⟨⟨s, some ⟨b, off, none⟩, cap, Y⟩, rfl, by rw [hY], hk, ?_, fun z hz => ?_, fun _ a e => by cases e; rfl⟩
    · exact reads_flat yC 9 (fun _ => rfl) (by omega) w0 _ Y (.inr ⟨b, off, rfl, hb2, fun i x hx j u hu => (hq i x hx).2.1 j u hu⟩)
    · obtain ⟨i, hi⟩ := List.mem_iff_getElem?.1 hz
      exact (hq i z hi).2.2
theorem segsM_of_tree {z : PathT × Value} (h : TreeV w0 z) (hw : WfP S (WfN S n) z.1) : ∃ (qA : Option Addr) (qc : Nat) (G : List SgD), z.2 = .slice qA G.length qc ∧ G.map (·.s) = z.1.segs ∧
    (∀ (i : Nat) (d : SgD), G[i]? = some d → ∃ b off, qA = some ⟨b, off, none⟩ ∧ b < w0.heap.size ∧ w0.rangeAt b (off + i * 2) [.bool d.s.deep, .slice d.A d.Y.length d.c] ∧ Rdd w0 9 d.A d.Y.length (d.Y.flatMap yC) ∧ ∀ a, d.A = some a → a.spot = none) ∧
    (∀ z ∈ ysD G, FltM w0 n z ∧ (z.1.kind ≠ 4 → z.2 = none)) ∧ (∀ d ∈ G, d.Y.map (·.1) = d.s.sels) := by
  obtain ⟨A, c, m, e, A', c', e', _, h3⟩ := h
  cases e'
  rcases h3 with h0 | ⟨b, off, rfl, hb, hb2, hc⟩
  · refine ⟨A, c, [], by rw [e, h0]; rfl, by rw [h0]; rfl, fun i d h => by simp at h, fun z h => by simp [ysD] at h, fun d h => by simp at h⟩
  · obtain ⟨G, hG, hq⟩ := listOf (fun i (d : SgD) => z.1.segs[i]? = some d.s ∧ w0.rangeAt b (off + i * 2) [.bool d.s.deep, .slice d.A d.Y.length d.c] ∧ Rdd w0 9 d.A d.Y.length (d.Y.flatMap yC) ∧ (d.Y.map (·.1) = d.s.sels) ∧ (∀ z ∈ d.Y, FltM w0 n z ∧ (z.1.kind ≠ 4 → z.2 = none)) ∧ ∀ a, d.A = some a → a.spot = none) z.1.segs.length fun i hi => by
      have hx := List.getElem?_eq_getElem hi
      obtain ⟨cs, h1, h2, h3⟩ := hc i _ hx
      have hwi := hw _ (List.getElem_mem hi)
      obtain ⟨d, k1, k2, k3, k4, k5, k6⟩ := segdM_of h3 hwi.2
      have hne : 0 < d.Y.length := by
        have := List.length_pos_iff.2 hwi.1
        rw [← k3, List.length_map] at this
        exact this
      refine ⟨d, by rw [k1]; exact hx, ?_, k4, by rw [k1]; exact k3, k5, k6 hne⟩
      rw [k1, ← k2]
      exact h2
    have hmem : ∀ d ∈ G, ∃ i, G[i]? = some d := fun d hd => List.mem_iff_getElem?.1 hd
    refine ⟨some ⟨b, off, none⟩, c, G, by rw [e, hG], ?_, fun i d hd => ⟨b, off, rfl, hb2, (hq i d hd).2.1, (hq i d hd).2.2.1, (hq i d hd).2.2.2.2.2⟩, fun z hz => ?_, fun d hd => ?_⟩
    · refine List.ext_getElem? fun i => ?_
      rw [List.getElem?_map]
      by_cases hi : i < G.length
      · rw [List.getElem?_eq_getElem hi]
        exact ((hq i _ (List.getElem?_eq_getElem hi)).1).symm
      · rw [List.getElem?_eq_none (by omega), List.getElem?_eq_none (by omega)]; rfl
    · obtain ⟨d, hd, hz⟩ := List.mem_flatMap.1 hz
      obtain ⟨i, hi⟩ := hmem d hd
      exact (hq i d hi).2.2.2.2.1 z hz
    · obtain ⟨i, hi⟩ := hmem d hd
      exact (hq i d hi).2.2.2.1
variable {L : List BlkE} {rs : List RowE} {J : World → Prop}
/-- path, of whatever tree. -/
theorem mpath_tree (g : Nat) (z : PathT × Value) (hz : TreeV w0 z) (hwf : WfP S (WfN S n) z.1) (c : CodeD) (W0 : List (PathT × Value)) (w : World) (h : MkS w0 w g L rs J c W0) (hsz : szC c ≤ 10000) (hws : W0.length ≤ 10000) (hp : wtP (wtN n) z.1 ≤ 10000) :
    Calls Tryz.prog 28 #[.pointer (some ⟨g, 0, none⟩), .agg #[.bool z.1.abs, z.2]] w fun e w' => e = .returned (.tuple #[]) ∧ ∃ Wn : List (PathT × Value), MkS w0 w' g L rs J (layP n W0.length c z.1) (W0 ++ Wn) ∧ Wn.map (·.1) = flW n (selsOf z.1.segs) ∧ ∀ z ∈ Wn, TreeV w0 z := by
  obtain ⟨qA, qc, G, hz2, hGs0, hG, hF, hGs⟩ := segsM_of_tree hz hwf
  have hsel : selsOf z.1.segs = (ysD G).map (·.1) := by rw [← hGs0]; exact sels_map hGs
  have hcost := path_cost n z.1 c.is.length W0.length hwf
  have hlen : z.1.segs.length = G.length := by rw [← hGs0, List.length_map]
  have hS : ∀ y ∈ ysD G, WfS S (WfN S n) y.1 := fun y hy => sels_wf hwf y.1 (by rw [hsel]; exact List.mem_map.2 ⟨y, hy, rfl⟩)
  have hfw : (flW n (selsOf z.1.segs)).length ≤ ((flW n (selsOf z.1.segs)).map (wtP (wtN n))).sum := len_le_sum _ _ fun x _ => by unfold wtP; omega
  rw [hsel] at hcost hfw
  rw [hlen, List.length_map] at hcost
  have hBD : ∀ Pd Rd, ysD G = Pd ++ Rd → c.is.length + (flD n c.is.length W0.length (Pd.map (·.1))).2.length ≤ 999980 ∧ W0.length + (flW n (Pd.map (·.1))).length ≤ 999990 := fun Pd Rd e => by
    have h1 := flD_pre (N := n) (Pd.map (·.1)) (Rd.map (·.1)) c.is.length W0.length
    have h2 : (flW n (Pd.map (·.1))).length ≤ (flW n (Pd.map (·.1) ++ Rd.map (·.1))).length := by rw [flW_app, List.length_append]; omega
    rw [← List.map_append, ← e] at h1 h2
    unfold szC at hsz
    omega
  unfold szC at hsz
  have ec : layP n W0.length c z.1 = ⟨c.ps ++ [⟨z.1.abs, c.gs.length, (c.gs.length + G.length : Nat)⟩], c.gs ++ gsD c.ss.length (G.map (·.s)), c.ss ++ (flD n c.is.length W0.length ((ysD G).map (·.1))).1, c.is ++ (flD n c.is.length W0.length ((ysD G).map (·.1))).2⟩ := by
    unfold layP; rw [hsel, ← hlen, hGs0]
  rw [hz2, ec, hsel]
  exact mpath_one g c W0 z.1.abs qA qc G w h hG S n hS (fun z hz => (hF z hz).1) (fun z hz => (hF z hz).2) hGs (by omega) (by omega) (by omega) hBD
end

/-- What Make tells. -/
def CMakeP (c : CodeD) (w : World) (e : Ending) (w' : World) : Prop :=
  ∃ (A1 A2 A3 A4 : Option Addr) (k1 k2 k3 k4 : Nat), e = .returned (.agg #[.slice A1 c.ps.length k1, .slice A2 c.gs.length k2, .slice A3 c.ss.length k3, .slice A4 c.is.length k4]) ∧
    CRd w' c A1 A2 A3 A4 ∧ (FrA w A1 ∧ FrA w A2 ∧ FrA w A3 ∧ FrA w A4) ∧ (c.gs.length ≤ k2 ∧ c.ss.length ≤ k3) ∧ Bel w.heap.size w w'
/-- The maker's rows, taken out of its hands. -/
theorem MkS.take {w0 w : World} {g : Nat} {L : List BlkE} {rs : List RowE} {J : World → Prop} {c : CodeD} {W : List (PathT × Value)} (h : MkS w0 w g L rs J c W) : ∃ A1 A2 A3 A4 k1 k2 k3 k4 v5, Own [] w0 w ((g, 71, #[.slice A1 c.ps.length k1, .slice A2 c.gs.length k2, .slice A3 c.ss.length k3, .slice A4 c.is.length k4, v5]) :: L) ((v5, 37, 2, W.length, W.flatMap wC) :: rs) (fun y => J y ∧ CRd y c A1 A2 A3 A4) ∧ (FrA w0 A1 ∧ FrA w0 A2 ∧ FrA w0 A3 ∧ FrA w0 A4) ∧ (c.gs.length ≤ k2 ∧ c.ss.length ≤ k3) := by
  obtain ⟨v1, v2, v3, v4, v5, M⟩ := h
  unfold MkR at M
  obtain ⟨A1, k1, rfl, _, f1, M⟩ := M.freezeRow
  obtain ⟨A2, k2, rfl, q2, f2, M⟩ := M.freezeRow
  obtain ⟨A3, k3, rfl, q3, f3, M⟩ := M.freezeRow
  obtain ⟨A4, k4, rfl, _, f4, M⟩ := M.freezeRow
  exact ⟨A1, A2, A3, A4, k1, k2, k3, k4, v5, M.imp fun y h => ⟨h.1.1.1.1, ⟨h.1.1.1.2, h.1.1.2, h.1.2, h.2⟩⟩, ⟨f1, f2, f3, f4⟩, q2.1, q3.1⟩

set_option maxRecDepth 100000 in
set_option maxHeartbeats 2000000 in
theorem make_any (S : List UInt8 → Prop) (p : PathT) (v : Value) (w : World) (hz : TreeV w (p, v)) (hwf : WfP S (WfN S 200) p) (hwt : wtP (wtN 200) p ≤ 5000) : Calls Tryz.prog 15 #[.agg #[.bool p.abs, v]] w (CMakeP (codeT p) w) := by
  have M := Lib.hid (Own.start [] w (fun _ => True) fun _ _ => trivial)
  have HZ := Lib.hid hz
  have HWP := Lib.hid hwf
  have HWT := Lib.hid hwt
  clear hz hwf hwt
  obtain ⟨Ap, cp, mp, hv, _⟩ := HZ.out
  simp only at hv
  subst hv
  go_enter Tryz.func15, Tryz.ntmps15
  generalize hQ : bodyPost Tryz.prog Tryz.f15 _ = Q
  have HQ := Lib.hid hQ; clear hQ
  let qd := bodyPost Tryz.prog Tryz.f15 (fun _ _ => True)
  go_upto_region 3 with (first | ((with_reducible refine g_bx 37 1 ?_); refine l_bx rfl M.out ?_; clear M; intro g1 w' hg1 M; replace M := Lib.hid M.out.freeze) | ((with_reducible refine g_al 28 2 ?_); refine l_al F_Code M.out ?_; clear M; intro g2 w' hg2 M) | ((with_reducible refine g_ld 37 ?_); refine l_ldj F_Path rfl M.out (fun y h => h.2) (by exact rfl) ?_) | ((with_reducible refine g_bs 69 6 ?_); refine l_bs SL_sPath (cs := #[.bool p.abs, .slice Ap p.segs.length cp]) (by kernel_rfl) M.out ?_; clear M; intro g6 w' hg6 M) | ((with_reducible refine g_bx 71 8 ?_); refine l_bx rfl M.out ?_; clear M; intro g8 w' hg8 M))
  replace M := Lib.hid (((((M.out.swap2.rowOf 2 1 hg6 rfl (by unfold maxLen; omega)).rowNil 59 7).rowNil 57 8).rowNil 55 3).rowNil 53 3)
  replace M := Lib.hid (show MkS w _ g8 [(g2, 28, #[.slice none 0 0, .slice none 0 0, .slice none 0 0, .slice none 0 0])] [] (fun _ => True) code0 [(p, .slice Ap p.segs.length cp)] from MkS.of (M.out.imp fun _ _ => trivial) rfl)
  go_wp2
  go_loopg [4] 5000 (fun gk iv wr => ∃ (c : CodeD) (W : List (PathT × Value)), gk = 5000 - c.ps.length ∧ iv = .int .i64 (c.ps.length : Nat) ∧ Hid (makeL 200 (5000 - c.ps.length) c ((W.map (·.1)).drop c.ps.length) = codeT p ∧ c.ps.length ≤ W.length ∧ szC c + (((W.map (·.1)).drop c.ps.length).map (wtP (wtN 200))).sum ≤ 5000) ∧ Hid (∀ z ∈ W, TreeV w z ∧ WfP S (WfN S 200) z.1) ∧ Hid (MkS w wr g8 [(g2, 28, #[.slice none 0 0, .slice none 0 0, .slice none 0 0, .slice none 0 0])] [] (fun _ => True) c W))
  case atStart => exact ⟨code0, [(p, .slice Ap p.segs.length cp)], rfl, rfl, Lib.hid ⟨rfl, Nat.zero_le _, by simpa [code0, szC] using HWT.out⟩, Lib.hid (fun z hz => by rw [List.mem_singleton.1 hz]; exact ⟨HZ.out, HWP.out⟩), M⟩
  case round =>
    clear M
    obtain ⟨c, W, hgk, rfl, HINV, HTW, M⟩ := hrel
    have HGK := Lib.hid hgk
    clear hgk
    cases hdr : (W.map (·.1)).drop c.ps.length with
    | cons q r =>
      have hlt : c.ps.length < W.length := by
        rcases Nat.lt_or_ge c.ps.length W.length with h | h
        · exact h
        · rw [List.drop_eq_nil_of_le (by rw [List.length_map]; exact h)] at hdr; cases hdr
      obtain ⟨z, hz⟩ : ∃ z, W[c.ps.length]? = some z := ⟨_, List.getElem?_eq_getElem hlt⟩
      have hqz : q = z.1 := by
        have h1 := congrArg (fun l => l[0]?) hdr
        simp only [List.getElem?_drop, Nat.add_zero, List.getElem?_map, hz, List.getElem?_cons_zero, Option.map_some] at h1
        exact (Option.some.inj h1).symm
      subst hqz
      have HDR := Lib.hid hdr
      have HZI := Lib.hid hz
      have HWF := Lib.hid (HTW.out z (List.mem_of_getElem? hz)).2
      have hsz := HINV.out.2.2
      rw [HDR.out, List.map_cons, List.sum_cons] at hsz
      have hw1 : 1 ≤ wtP (wtN 200) z.1 := by unfold wtP; omega
      have hps : c.ps.length ≤ szC c := by unfold szC; omega
      have hWl : W.length ≤ 5000 := by
        have h1 := wt_len (n := 200) r
        have h2 := congrArg List.length HDR.out
        rw [List.length_drop, List.length_map, List.length_cons] at h2
        omega
      have HLY := Lib.hid (show (layP 200 W.length c z.1).ps.length = c.ps.length + 1 from by simp [layP])
      have hps5 : c.ps.length < 5000 := by omega
      have hltI : (c.ps.length : Int) < (W.length : Int) := by omega
      have HPC := Lib.hid (fun (wz : World) (hm : MkS w wz g8 [(g2, 28, #[.slice none 0 0, .slice none 0 0, .slice none 0 0, .slice none 0 0])] [] (fun _ => True) c W) => mpath_tree (S := S) (n := 200) g8 z (HTW.out z (List.mem_of_getElem? HZI.out)).1 HWF.out c W wz hm (by omega) (by omega) (by omega))
      have HM := Lib.hid M.out
      obtain ⟨A1, A2, A3, A4, A5, k1, k2, k3, k4, k5, hM⟩ := M.out.open_; unfold MkA at hM; (try dsimp only at hM); replace M := Lib.hid hM; clear hM
      obtain ⟨b5, c5, hv5, _⟩ := own_slice (n := W.length) (M.out.row (.slice A5 W.length k5, _) (by repeat constructor)) (by omega)
      simp only [Value.slice.injEq, true_and] at hv5
      obtain ⟨rfl, rfl⟩ := hv5
      obtain ⟨A', c', e', _, _, hrd⟩ := own_reads (M.out.row (.slice (some ⟨b5, 0, none⟩) W.length k5, _) (by repeat constructor))
      simp only [Value.slice.injEq, true_and] at e'
      obtain ⟨rfl, rfl⟩ := e'
      have HRA := Lib.hid (show World.rangeAt _ b5 (c.ps.length * 2) [.bool z.1.abs, z.2] from fun j u hu => by
        obtain ⟨ad, e, _, hc⟩ := hrd.2 (by show 0 < W.length; omega)
        cases e
        have hj : j < 2 := (List.getElem?_eq_some_iff.1 hu).1
        have := hc (c.ps.length * 2 + j) u (by show (W.flatMap wC)[c.ps.length * 2 + j]? = _; rw [flat_get wC 2 (fun _ => rfl) W c.ps.length j hj, HZI.out]; exact hu)
        rw [add_lit] at this
        simpa using this)
      clear hrd hz hdr hsz hw1 hps
      go_wp2_with (first | ((with_reducible refine g_ld 69 ?_); refine l_ld1 O_sPath rfl M.out (by repeat constructor) (by exact rfl) ?_) | ((with_reducible refine g_ld 37 ?_); refine l_ldf F_Path rfl HRA.out rfl ?_) | (go_at_call 28; (with_reducible refine (HPC.out _ HM.out).mono ?_); rintro e w' ⟨rfl, Wn, hm, hW1, hW2⟩; have HMN := Lib.hid hm; have HWN := Lib.hid (And.intro hW1 hW2); clear hm hW1 hW2))
      go_roundg (5000 - (c.ps.length + 1))
      case measure => rw [HGK.out]; omega
      case rel => exact ⟨layP 200 W.length c z.1, W ++ Wn, by rw [HLY.out], by rw [HLY.out]; first | go_num | simp, Lib.hid (make_step HWN.out.1 HDR.out HINV.out HWF.out), Lib.hid (fun y hy => (List.mem_append.1 hy).elim (HTW.out y) fun hy => ⟨HWN.out.2 y hy, flW_mem (sels_wf HWF.out) (by rw [← HWN.out.1]; exact List.mem_map.2 ⟨y, hy, rfl⟩)⟩), HMN⟩
    | nil =>
      have hWc : W.length = c.ps.length := by
        have := congrArg List.length hdr
        rw [List.length_drop, List.length_map, List.length_nil] at this
        have := HINV.out.2.1
        omega
      have HCO := Lib.hid (show codeT p = c from by
        rw [← HINV.out.1, hdr]
        cases 5000 - c.ps.length <;> rfl)
      have hnlt : ¬ (c.ps.length : Int) < (W.length : Int) := by omega
      have HWC := Lib.hid hWc
      clear hdr hWc
      obtain ⟨A1, A2, A3, A4, A5, k1, k2, k3, k4, k5, hM⟩ := M.out.open_; unfold MkA at hM; (try dsimp only at hM); replace M := Lib.hid hM; clear hM
      go_upto_region 6 with (first | ((with_reducible refine g_ld 69 ?_); refine l_ld1 O_sPath rfl M.out (by repeat constructor) (by exact rfl) ?_))
      obtain ⟨B1, B2, B3, B4, j1, j2, j3, j4, v5, M2, hf, hq⟩ := (MkS.shut M.out).take
      replace M := Lib.hid M2
      have HF := Lib.hid hf
      have HQ2 := Lib.hid hq
      clear M2 hf hq
      go_wp2_with (first | ((with_reducible refine g_ld 28 ?_); refine l_ldm F_Code rfl M.out (by repeat constructor) (by exact rfl) (by exact rfl) ?_) | ((with_reducible refine g_st 28 ?_); refine l_st F_Code rfl rfl M.out (by repeat constructor) (by exact rfl) (by exact rfl) (by exact rfl) ?_; clear M; intro w' M))
      rw [← HQ.out]
      refine bodyPost_ret (results_1 Tryz.results15 _ _ g2 _ _ rfl (M.out.blk (g2, _, _) (by repeat constructor)) F_Code rfl) rfl ?_
      rw [HCO.out]
      exact ⟨B1, B2, B3, B4, j1, j2, j3, j4, rfl, M.out.now.2, HF.out, HQ2.out, M.out.bel0⟩


end
/- code: Query (printed by gen_zh.py). -/
section
open Go.RowKit

/-- What Query tells. -/
def CQueryP (l : List UInt8) (w : World) (e : Ending) (w' : World) : Prop :=
  match parseT true l with
  | .error (x, a) => e = .returned (.tuple #[.agg #[.slice none 0 0, .slice none 0 0, .slice none 0 0, .slice none 0 0], .agg #[.int .i64 x, .int .i64 a]]) ∧ Bel w.heap.size w w'
  | .ok p => ∃ (A1 A2 A3 A4 : Option Addr) (k1 k2 k3 k4 : Nat), e = .returned (.tuple #[.agg #[.slice A1 (codeT p).ps.length k1, .slice A2 (codeT p).gs.length k2, .slice A3 (codeT p).ss.length k3, .slice A4 (codeT p).is.length k4], .agg #[.int .i64 0, .int .i64 0]]) ∧
    CRd w' (codeT p) A1 A2 A3 A4 ∧ (FrA w A1 ∧ FrA w A2 ∧ FrA w A3 ∧ FrA w A4) ∧ ((codeT p).gs.length ≤ k2 ∧ (codeT p).ss.length ≤ k3) ∧ Bel w.heap.size w w'
theorem tree_of_segs {w y : World} {m : Nat} {p : PathT} {A : Option Addr} {c : Nat} (h : SegsG (Fr w) (ExR (Fr w) m y) y (.slice A p.segs.length c) p.segs) : TreeV y (p, .slice A p.segs.length c) :=
  SegsG.tree (p := p) (SegsG.keep (K' := Lw y) (R' := ExR (Lw y) m y) h ⟨Nat.le_refl _, fun _ _ hb => ⟨hb, rfl⟩⟩ fun cs x hx => ExR.keep ⟨Nat.le_refl _, fun _ _ hb => ⟨hb, rfl⟩⟩ m m (Nat.le_refl _) cs x hx)
theorem Own.addC {X : List Nat} {w0 w w' : World} {L : List BlkE} {rs : List RowE} {J : World → Prop} {A1 A2 A3 A4 : Option Addr} {c : CodeD} (M : Own X w0 w L rs J) (hb : Bel w.heap.size w w') (h : CRd w' c A1 A2 A3 A4) (f1 : FrA w A1) (f2 : FrA w A2) (f3 : FrA w A3) (f4 : FrA w A4) : Own X w0 w' L rs (fun y => J y ∧ CRd y c A1 A2 A3 A4) :=
  (M.bel hb).add fun _ hy =>
    have key : ∀ {k n : Nat} {A : Option Addr} {xs : List Value}, Rdd w' k A n xs → FrA w A → Rdd _ k A n xs := fun h hf => h.kept hy fun a e _ hm => Nat.lt_irrefl _ (Nat.lt_of_lt_of_le (M.ex_lt hm) (hf a e).1)
    ⟨key h.p f1, key h.g f2, key h.s f3, key h.i f4⟩

set_option maxRecDepth 100000 in
set_option maxHeartbeats 2000000 in
theorem query_errP (s : ByteArray) (w : World) (x a : Int) (hxb : (x != 0) = true) (hP : ∀ w, Calls Tryz.prog 17 #[.string s] w fun e w' => e = .returned (.tuple #[.agg #[.bool false, .slice none 0 0], .agg #[.int .i64 x, .int .i64 a]]) ∧ Bel w.heap.size w w') : Calls Tryz.prog 11 #[.string s] w fun e w' => e = .returned (.tuple #[.agg #[.slice none 0 0, .slice none 0 0, .slice none 0 0, .slice none 0 0], .agg #[.int .i64 x, .int .i64 a]]) ∧ Bel w.heap.size w w' := by
  have M := Lib.hid (Own.start [] w (fun _ => True) fun _ _ => trivial)
  have HP := Lib.hid hP
  clear hP
  go_enter Tryz.func11, Tryz.ntmps11
  generalize hQ : bodyPost Tryz.prog Tryz.f11 _ = Q
  have HQ := Lib.hid hQ; clear hQ
  let qd := bodyPost Tryz.prog Tryz.f11 (fun _ _ => True)
  go_upto_region 3 with (first | ((with_reducible refine g_al 28 2 ?_); refine l_al F_Code M.out ?_; clear M; intro g2 w' hg2 M) | ((with_reducible refine g_al 31 3 ?_); refine l_al F_Flt M.out ?_; clear M; intro g3 w' hg3 M) | ((with_reducible refine g_al 37 4 ?_); refine l_al F_Path M.out ?_; clear M; intro g4 w' hg4 M) | ((with_reducible refine g_al 31 5 ?_); refine l_al F_Flt M.out ?_; clear M; intro g5 w' hg5 M) | ((with_reducible refine g_st 37 ?_); refine l_st F_Path rfl rfl M.out (by repeat constructor) (by exact rfl) (by exact rfl) (by exact rfl) ?_; clear M; intro w' M) | ((with_reducible refine g_st 31 ?_); refine l_st F_Flt rfl rfl M.out (by repeat constructor) (by exact rfl) (by exact rfl) (by exact rfl) ?_; clear M; intro w' M) | ((with_reducible refine g_ld 29 ?_); refine l_ld1 O_errno rfl M.out (by repeat constructor) (by exact rfl) ?_) | (go_at_call 17; (with_reducible refine (HP.out _).mono ?_); rintro e w' ⟨rfl, hb⟩; replace M := Lib.hid (M.out.bel hb); clear hb))
  replace M := Lib.hid M.out.freeze
  replace M := Lib.hid M.out.drew
  refine tb (fun y => True ∧ Blk y g5 31 #[.int .i64 x, .int .i64 a]) M.out.now ?_
  refine tkp 0 rfl M.out.now ?_
  refine tk 1 rfl M.out.now (y_ld F_Flt _ _ rfl _ _ (fun y h => h.2) rfl) ?_
  refine tr [2] ?_
  refine r_st F_Code (i := 2) rfl rfl rfl M.out (by repeat constructor) (by exact rfl) (by exact rfl) (by exact rfl) ?_ ?_
  · clear M; intro w' M; refine ⟨M.out.now, tn ?_⟩
    refine tr [3] ?_
    refine r_st F_Flt (i := 3) rfl rfl rfl M.out (by repeat constructor) (by exact rfl) (by exact rfl) (by exact rfl) ?_ ?_
    · clear M; intro w' M; refine ⟨M.out.now, tn ?_⟩
      refine te ?_
      go_wp2
      rw [← HQ.out]
      exact bodyPost_ret (results_2T Tryz.results11 _ _ g2 g3 _ _ _ _ rfl rfl (M.out.blk (g2, _, _) (by repeat constructor)) (M.out.blk (g3, _, _) (by repeat constructor)) F_Code F_Flt rfl rfl) rfl ⟨rfl, M.out.bel0⟩
    exact .nil
  exact .nil
set_option maxRecDepth 100000 in
set_option maxHeartbeats 2000000 in
theorem query_okP (s : ByteArray) (w : World) (p : PathT) (hwf : WfP (fun _ => True) (WfN (fun _ => True) 200) p) (hwt : wtP (wtN 200) p ≤ 4000) (hP : ∀ w, Calls Tryz.prog 17 #[.string s] w fun e w' => (∃ m A c, e = .returned (.tuple #[.agg #[.bool p.abs, .slice A p.segs.length c], .agg #[.int .i64 0, .int .i64 0]]) ∧ SegsG (Fr w) (ExR (Fr w) m w') w' (.slice A p.segs.length c) p.segs) ∧ Bel w.heap.size w w') : Calls Tryz.prog 11 #[.string s] w fun e w' => ∃ (A1 A2 A3 A4 : Option Addr) (k1 k2 k3 k4 : Nat), e = .returned (.tuple #[.agg #[.slice A1 (codeT p).ps.length k1, .slice A2 (codeT p).gs.length k2, .slice A3 (codeT p).ss.length k3, .slice A4 (codeT p).is.length k4], .agg #[.int .i64 0, .int .i64 0]]) ∧ CRd w' (codeT p) A1 A2 A3 A4 ∧ (FrA w A1 ∧ FrA w A2 ∧ FrA w A3 ∧ FrA w A4) ∧ ((codeT p).gs.length ≤ k2 ∧ (codeT p).ss.length ≤ k3) ∧ Bel w.heap.size w w' := by
  have M := Lib.hid (Own.start [] w (fun _ => True) fun _ _ => trivial)
  have HP := Lib.hid hP
  have HWF := Lib.hid (And.intro hwf hwt)
  clear hP hwf hwt
  go_enter Tryz.func11, Tryz.ntmps11
  generalize hQ : bodyPost Tryz.prog Tryz.f11 _ = Q
  have HQ := Lib.hid hQ; clear hQ
  let qd := bodyPost Tryz.prog Tryz.f11 (fun _ _ => True)
  go_wp2_with (first | ((with_reducible refine g_al 28 2 ?_); refine l_al F_Code M.out ?_; clear M; intro g2 w' hg2 M) | ((with_reducible refine g_al 31 3 ?_); refine l_al F_Flt M.out ?_; clear M; intro g3 w' hg3 M) | ((with_reducible refine g_al 37 4 ?_); refine l_al F_Path M.out ?_; clear M; intro g4 w' hg4 M) | ((with_reducible refine g_al 31 5 ?_); refine l_al F_Flt M.out ?_; clear M; intro g5 w' hg5 M) | ((with_reducible refine g_st 37 ?_); refine l_st F_Path rfl rfl M.out (by repeat constructor) (by exact rfl) (by exact rfl) (by exact rfl) ?_; clear M; intro w' M) | ((with_reducible refine g_st 31 ?_); refine l_st F_Flt rfl rfl M.out (by repeat constructor) (by exact rfl) (by exact rfl) (by exact rfl) ?_; clear M; intro w' M) | ((with_reducible refine g_ld 29 ?_); refine l_ld1 O_errno rfl M.out (by repeat constructor) (by exact rfl) ?_) | ((with_reducible refine g_st 28 ?_); refine l_st F_Code rfl rfl M.out (by repeat constructor) (by exact rfl) (by exact rfl) (by exact rfl) ?_; clear M; intro w' M) | ((with_reducible refine g_ld 37 ?_); refine l_ld F_Path rfl M.out (by repeat constructor) (by exact rfl) ?_) | (go_at_call 17; (with_reducible refine (HP.out _).mono ?_); rintro e w' ⟨⟨m, A, c, rfl, hrow⟩, hb⟩; have Mn := M.out.addK (G := fun K y => SegsG K (ExR K m y) y (.slice A p.segs.length c) p.segs) (fun h hk => SegsG.keep h hk fun _ _ h => ExR.keep hk m m (Nat.le_refl _) _ _ h) hb hrow; replace M := Lib.hid Mn; clear Mn hb hrow) | (go_at_call 15; (with_reducible refine (make_any (fun _ => True) p (.slice A p.segs.length c) _ (tree_of_segs M.out.now.2) HWF.out.1 (by have := HWF.out.2; omega)).mono ?_); rintro e w' ⟨A1, A2, A3, A4, k1, k2, k3, k4, rfl, hcr, ⟨f1, f2, f3, f4⟩, hq, hb⟩; have Mn := M.out.addC hb hcr f1 f2 f3 f4; have HQQ := Lib.hid hq; have HFF := Lib.hid (show FrA w A1 ∧ FrA w A2 ∧ FrA w A3 ∧ FrA w A4 from ⟨f1.le M.out.size, f2.le M.out.size, f3.le M.out.size, f4.le M.out.size⟩); replace M := Lib.hid Mn; clear Mn hb hcr f1 f2 f3 f4 hq))
  rw [← HQ.out]
  exact bodyPost_ret (results_2T Tryz.results11 _ _ g2 g3 _ _ _ _ rfl rfl (M.out.blk (g2, _, _) (by repeat constructor)) (M.out.blk (g3, _, _) (by repeat constructor)) F_Code F_Flt rfl rfl) rfl ⟨A1, A2, A3, A4, k1, k2, k3, k4, rfl, M.out.now.2, HFF.out, HQQ.out, M.out.bel0⟩
theorem query_any (s : ByteArray) (w : World) (hs : s.size ≤ 1000) : Calls Tryz.prog 11 #[.string s] w (CQueryP s.data.toList w) := by
  have hP := fun w => parse_any s w (by omega)
  unfold ParseP at hP
  cases hp : parseT true s.data.toList with
  | error e =>
    obtain ⟨x, a⟩ := e
    rw [hp] at hP
    unfold CQueryP
    rw [hp]
    exact query_errP s w x a (bne_iff_ne.2 (err_ne hp)) hP
  | ok p =>
    rw [hp] at hP
    unfold CQueryP
    rw [hp]
    obtain ⟨h1, h2, -⟩ := parse_wf hp
    exact query_okP s w p h1 (by have : s.data.toList.length ≤ 1000 := (by rw [len_toList]; exact hs); omega) hP


end

end Go.Proofs.YtpcbcodmocmilaaGreatDoor
