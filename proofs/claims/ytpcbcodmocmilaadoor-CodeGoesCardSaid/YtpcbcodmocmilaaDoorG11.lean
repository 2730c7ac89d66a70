/- G11: Qe0, Yb, Yd, Yc joined. -/
import Derived.Deep.RegionHeld3
import Derived.Test.YtpcbcodmocmilaaDoorQd
import Derived.Test.YtpcbcodmocmilaaDoorG08
namespace Go.Proofs.YtpcbcodmocmilaaDoor
open Go.RowKit
/- Blocks of N cells: opened, and stored into (printed by gen_cells.py). -/
section
open Go.RowKit

theorem Kp.set_ {K K' : Nat → Prop} {a w : World} (h : Kp K K' a w) {p : Addr} (hp : ∀ b, K b → b < a.heap.size → b ≠ p.block) (u : Value) : Kp K K' a (w.setCell p u) :=
  ⟨by have := h.size; simpa using this, fun b hb hl => ⟨(h.block b hb hl).1, (Below.heap_setCell w p u b (hp b hb hl)).trans (h.block b hb hl).2⟩⟩
theorem Kp.alloc {K K' : Nat → Prop} {a w : World} (h : Kp K K' a w) (o : Obj) : Kp K K' a (w.alloc o) :=
  ⟨by have := h.size; simp; omega, fun b hb hl => ⟨(h.block b hb hl).1, (Below.heap_alloc w o b (Nat.lt_of_lt_of_le hl h.size)).trans (h.block b hb hl).2⟩⟩
theorem Kp.ex {K K' : Nat → Prop} {g : Nat} {a w w' : World} (h : Kp K K' a w) (hx : Ex g w w') (hg : ∀ b, K b → b < a.heap.size → b ≠ g) : Kp K K' a w' :=
  ⟨Nat.le_trans h.size hx.size, fun b hb hl => ⟨(h.block b hb hl).1, (hx.block b (Nat.lt_of_lt_of_le hl h.size) (hg b hb hl)).trans (h.block b hb hl).2⟩⟩
theorem Kp.id_ {K K' : Nat → Prop} {w : World} (h : ∀ b, K b → b < w.heap.size → K' b) : Kp K K' w w := ⟨Nat.le_refl _, fun b hb hl => ⟨h b hb hl, rfl⟩⟩
theorem Blk.c2 {w : World} {k : Nat} {t : TypeId} {u0 u1 : Value} (h : Blk w k t #[u0, u1]) : k < w.heap.size ∧ (w.cell? ⟨k, 0, none⟩ = some u0 ∧ w.cell? ⟨k, 1, none⟩ = some u1) ∧ (w.frozen? ⟨k, 0, none⟩ = false ∧ w.frozen? ⟨k, 1, none⟩ = false) :=
  ⟨h.lt, ⟨h.cell 0, h.cell 1⟩, ⟨h.frozen 0, h.frozen 1⟩⟩
theorem RdS.far2 {g : Nat} {E : Int} {w : World} {t : PSt} {d k : Nat} {u0 u1 : Value} (h : RdS g E w t d) (hk : g < k) : RdS g E ((w.setCell ⟨k, 0, none⟩ u0).setCell ⟨k, 1, none⟩ u1) t d := ((h.far hk u0).far hk u1)
theorem Ex.far2 {g : Nat} {a w : World} {k : Nat} {u0 u1 : Value} (h : Ex g a w) (hk : a.heap.size ≤ k) : Ex g a ((w.setCell ⟨k, 0, none⟩ u0).setCell ⟨k, 1, none⟩ u1) := ((h.set_ (.inr hk) u0).set_ (.inr hk) u1)
theorem Kp.far2 {K K' : Nat → Prop} {a w : World} {k : Nat} {u0 u1 : Value} (h : Kp K K' a w) (hk : ∀ b, K b → b < a.heap.size → b ≠ k) : Kp K K' a ((w.setCell ⟨k, 0, none⟩ u0).setCell ⟨k, 1, none⟩ u1) := ((h.set_ hk u0).set_ hk u1)
theorem Blk.far2 {w : World} {k l : Nat} {t : TypeId} {cs : Array Value} {u0 u1 : Value} (h : Blk w l t cs) (hk : l ≠ k) : Blk ((w.setCell ⟨k, 0, none⟩ u0).setCell ⟨k, 1, none⟩ u1) l t cs := ((h.far hk u0).far hk u1)
theorem Blk.c5 {w : World} {k : Nat} {t : TypeId} {u0 u1 u2 u3 u4 : Value} (h : Blk w k t #[u0, u1, u2, u3, u4]) : k < w.heap.size ∧ (w.cell? ⟨k, 0, none⟩ = some u0 ∧ w.cell? ⟨k, 1, none⟩ = some u1 ∧ w.cell? ⟨k, 2, none⟩ = some u2 ∧ w.cell? ⟨k, 3, none⟩ = some u3 ∧ w.cell? ⟨k, 4, none⟩ = some u4) ∧ (w.frozen? ⟨k, 0, none⟩ = false ∧ w.frozen? ⟨k, 1, none⟩ = false ∧ w.frozen? ⟨k, 2, none⟩ = false ∧ w.frozen? ⟨k, 3, none⟩ = false ∧ w.frozen? ⟨k, 4, none⟩ = false) :=
  ⟨h.lt, ⟨h.cell 0, h.cell 1, h.cell 2, h.cell 3, h.cell 4⟩, ⟨h.frozen 0, h.frozen 1, h.frozen 2, h.frozen 3, h.frozen 4⟩⟩
theorem Blk.c6 {w : World} {k : Nat} {t : TypeId} {u0 u1 u2 u3 u4 u5 : Value} (h : Blk w k t #[u0, u1, u2, u3, u4, u5]) : k < w.heap.size ∧ (w.cell? ⟨k, 0, none⟩ = some u0 ∧ w.cell? ⟨k, 1, none⟩ = some u1 ∧ w.cell? ⟨k, 2, none⟩ = some u2 ∧ w.cell? ⟨k, 3, none⟩ = some u3 ∧ w.cell? ⟨k, 4, none⟩ = some u4 ∧ w.cell? ⟨k, 5, none⟩ = some u5) ∧ (w.frozen? ⟨k, 0, none⟩ = false ∧ w.frozen? ⟨k, 1, none⟩ = false ∧ w.frozen? ⟨k, 2, none⟩ = false ∧ w.frozen? ⟨k, 3, none⟩ = false ∧ w.frozen? ⟨k, 4, none⟩ = false ∧ w.frozen? ⟨k, 5, none⟩ = false) :=
  ⟨h.lt, ⟨h.cell 0, h.cell 1, h.cell 2, h.cell 3, h.cell 4, h.cell 5⟩, ⟨h.frozen 0, h.frozen 1, h.frozen 2, h.frozen 3, h.frozen 4, h.frozen 5⟩⟩
theorem RdS.far6 {g : Nat} {E : Int} {w : World} {t : PSt} {d k : Nat} {u0 u1 u2 u3 u4 u5 : Value} (h : RdS g E w t d) (hk : g < k) : RdS g E ((((((w.setCell ⟨k, 0, none⟩ u0).setCell ⟨k, 1, none⟩ u1).setCell ⟨k, 2, none⟩ u2).setCell ⟨k, 3, none⟩ u3).setCell ⟨k, 4, none⟩ u4).setCell ⟨k, 5, none⟩ u5) t d := ((((((h.far hk u0).far hk u1).far hk u2).far hk u3).far hk u4).far hk u5)
theorem Ex.far6 {g : Nat} {a w : World} {k : Nat} {u0 u1 u2 u3 u4 u5 : Value} (h : Ex g a w) (hk : a.heap.size ≤ k) : Ex g a ((((((w.setCell ⟨k, 0, none⟩ u0).setCell ⟨k, 1, none⟩ u1).setCell ⟨k, 2, none⟩ u2).setCell ⟨k, 3, none⟩ u3).setCell ⟨k, 4, none⟩ u4).setCell ⟨k, 5, none⟩ u5) := ((((((h.set_ (.inr hk) u0).set_ (.inr hk) u1).set_ (.inr hk) u2).set_ (.inr hk) u3).set_ (.inr hk) u4).set_ (.inr hk) u5)
theorem Kp.far6 {K K' : Nat → Prop} {a w : World} {k : Nat} {u0 u1 u2 u3 u4 u5 : Value} (h : Kp K K' a w) (hk : ∀ b, K b → b < a.heap.size → b ≠ k) : Kp K K' a ((((((w.setCell ⟨k, 0, none⟩ u0).setCell ⟨k, 1, none⟩ u1).setCell ⟨k, 2, none⟩ u2).setCell ⟨k, 3, none⟩ u3).setCell ⟨k, 4, none⟩ u4).setCell ⟨k, 5, none⟩ u5) := ((((((h.set_ hk u0).set_ hk u1).set_ hk u2).set_ hk u3).set_ hk u4).set_ hk u5)
theorem Blk.put6 {w : World} {k : Nat} {t : TypeId} {v0 v1 v2 v3 v4 v5 u0 u1 u2 u3 u4 u5 : Value} (h : Blk w k t #[v0, v1, v2, v3, v4, v5]) : Blk ((((((w.setCell ⟨k, 0, none⟩ u0).setCell ⟨k, 1, none⟩ u1).setCell ⟨k, 2, none⟩ u2).setCell ⟨k, 3, none⟩ u3).setCell ⟨k, 4, none⟩ u4).setCell ⟨k, 5, none⟩ u5) k t #[u0, u1, u2, u3, u4, u5] := ((((((h.set_ 0 u0).set_ 1 u1).set_ 2 u2).set_ 3 u3).set_ 4 u4).set_ 5 u5)
theorem Blk.far6 {w : World} {k l : Nat} {t : TypeId} {cs : Array Value} {u0 u1 u2 u3 u4 u5 : Value} (h : Blk w l t cs) (hk : l ≠ k) : Blk ((((((w.setCell ⟨k, 0, none⟩ u0).setCell ⟨k, 1, none⟩ u1).setCell ⟨k, 2, none⟩ u2).setCell ⟨k, 3, none⟩ u3).setCell ⟨k, 4, none⟩ u4).setCell ⟨k, 5, none⟩ u5) l t cs := ((((((h.far hk u0).far hk u1).far hk u2).far hk u3).far hk u4).far hk u5)
theorem Blk.c9 {w : World} {k : Nat} {t : TypeId} {u0 u1 u2 u3 u4 u5 u6 u7 u8 : Value} (h : Blk w k t #[u0, u1, u2, u3, u4, u5, u6, u7, u8]) : k < w.heap.size ∧ (w.cell? ⟨k, 0, none⟩ = some u0 ∧ w.cell? ⟨k, 1, none⟩ = some u1 ∧ w.cell? ⟨k, 2, none⟩ = some u2 ∧ w.cell? ⟨k, 3, none⟩ = some u3 ∧ w.cell? ⟨k, 4, none⟩ = some u4 ∧ w.cell? ⟨k, 5, none⟩ = some u5 ∧ w.cell? ⟨k, 6, none⟩ = some u6 ∧ w.cell? ⟨k, 7, none⟩ = some u7 ∧ w.cell? ⟨k, 8, none⟩ = some u8) ∧ (w.frozen? ⟨k, 0, none⟩ = false ∧ w.frozen? ⟨k, 1, none⟩ = false ∧ w.frozen? ⟨k, 2, none⟩ = false ∧ w.frozen? ⟨k, 3, none⟩ = false ∧ w.frozen? ⟨k, 4, none⟩ = false ∧ w.frozen? ⟨k, 5, none⟩ = false ∧ w.frozen? ⟨k, 6, none⟩ = false ∧ w.frozen? ⟨k, 7, none⟩ = false ∧ w.frozen? ⟨k, 8, none⟩ = false) :=
  ⟨h.lt, ⟨h.cell 0, h.cell 1, h.cell 2, h.cell 3, h.cell 4, h.cell 5, h.cell 6, h.cell 7, h.cell 8⟩, ⟨h.frozen 0, h.frozen 1, h.frozen 2, h.frozen 3, h.frozen 4, h.frozen 5, h.frozen 6, h.frozen 7, h.frozen 8⟩⟩
theorem RdS.far9 {g : Nat} {E : Int} {w : World} {t : PSt} {d k : Nat} {u0 u1 u2 u3 u4 u5 u6 u7 u8 : Value} (h : RdS g E w t d) (hk : g < k) : RdS g E (((((((((w.setCell ⟨k, 0, none⟩ u0).setCell ⟨k, 1, none⟩ u1).setCell ⟨k, 2, none⟩ u2).setCell ⟨k, 3, none⟩ u3).setCell ⟨k, 4, none⟩ u4).setCell ⟨k, 5, none⟩ u5).setCell ⟨k, 6, none⟩ u6).setCell ⟨k, 7, none⟩ u7).setCell ⟨k, 8, none⟩ u8) t d := (((((((((h.far hk u0).far hk u1).far hk u2).far hk u3).far hk u4).far hk u5).far hk u6).far hk u7).far hk u8)
theorem Ex.far9 {g : Nat} {a w : World} {k : Nat} {u0 u1 u2 u3 u4 u5 u6 u7 u8 : Value} (h : Ex g a w) (hk : a.heap.size ≤ k) : Ex g a (((((((((w.setCell ⟨k, 0, none⟩ u0).setCell ⟨k, 1, none⟩ u1).setCell ⟨k, 2, none⟩ u2).setCell ⟨k, 3, none⟩ u3).setCell ⟨k, 4, none⟩ u4).setCell ⟨k, 5, none⟩ u5).setCell ⟨k, 6, none⟩ u6).setCell ⟨k, 7, none⟩ u7).setCell ⟨k, 8, none⟩ u8) := (((((((((h.set_ (.inr hk) u0).set_ (.inr hk) u1).set_ (.inr hk) u2).set_ (.inr hk) u3).set_ (.inr hk) u4).set_ (.inr hk) u5).set_ (.inr hk) u6).set_ (.inr hk) u7).set_ (.inr hk) u8)
theorem Kp.far9 {K K' : Nat → Prop} {a w : World} {k : Nat} {u0 u1 u2 u3 u4 u5 u6 u7 u8 : Value} (h : Kp K K' a w) (hk : ∀ b, K b → b < a.heap.size → b ≠ k) : Kp K K' a (((((((((w.setCell ⟨k, 0, none⟩ u0).setCell ⟨k, 1, none⟩ u1).setCell ⟨k, 2, none⟩ u2).setCell ⟨k, 3, none⟩ u3).setCell ⟨k, 4, none⟩ u4).setCell ⟨k, 5, none⟩ u5).setCell ⟨k, 6, none⟩ u6).setCell ⟨k, 7, none⟩ u7).setCell ⟨k, 8, none⟩ u8) := (((((((((h.set_ hk u0).set_ hk u1).set_ hk u2).set_ hk u3).set_ hk u4).set_ hk u5).set_ hk u6).set_ hk u7).set_ hk u8)
theorem Blk.far9 {w : World} {k l : Nat} {t : TypeId} {cs : Array Value} {u0 u1 u2 u3 u4 u5 u6 u7 u8 : Value} (h : Blk w l t cs) (hk : l ≠ k) : Blk (((((((((w.setCell ⟨k, 0, none⟩ u0).setCell ⟨k, 1, none⟩ u1).setCell ⟨k, 2, none⟩ u2).setCell ⟨k, 3, none⟩ u3).setCell ⟨k, 4, none⟩ u4).setCell ⟨k, 5, none⟩ u5).setCell ⟨k, 6, none⟩ u6).setCell ⟨k, 7, none⟩ u7).setCell ⟨k, 8, none⟩ u8) l t cs := (((((((((h.far hk u0).far hk u1).far hk u2).far hk u3).far hk u4).far hk u5).far hk u6).far hk u7).far hk u8)
theorem Blk.c17 {w : World} {k : Nat} {t : TypeId} {u0 u1 u2 u3 u4 u5 u6 u7 u8 u9 u10 u11 u12 u13 u14 u15 u16 : Value} (h : Blk w k t #[u0, u1, u2, u3, u4, u5, u6, u7, u8, u9, u10, u11, u12, u13, u14, u15, u16]) : k < w.heap.size ∧ (w.cell? ⟨k, 0, none⟩ = some u0 ∧ w.cell? ⟨k, 1, none⟩ = some u1 ∧ w.cell? ⟨k, 2, none⟩ = some u2 ∧ w.cell? ⟨k, 3, none⟩ = some u3 ∧ w.cell? ⟨k, 4, none⟩ = some u4 ∧ w.cell? ⟨k, 5, none⟩ = some u5 ∧ w.cell? ⟨k, 6, none⟩ = some u6 ∧ w.cell? ⟨k, 7, none⟩ = some u7 ∧ w.cell? ⟨k, 8, none⟩ = some u8 ∧ w.cell? ⟨k, 9, none⟩ = some u9 ∧ w.cell? ⟨k, 10, none⟩ = some u10 ∧ w.cell? ⟨k, 11, none⟩ = some u11 ∧ w.cell? ⟨k, 12, none⟩ = some u12 ∧ w.cell? ⟨k, 13, none⟩ = some u13 ∧ w.cell? ⟨k, 14, none⟩ = some u14 ∧ w.cell? ⟨k, 15, none⟩ = some u15 ∧ w.cell? ⟨k, 16, none⟩ = some u16) ∧ (w.frozen? ⟨k, 0, none⟩ = false ∧ w.frozen? ⟨k, 1, none⟩ = false ∧ w.frozen? ⟨k, 2, none⟩ = false ∧ w.frozen? ⟨k, 3, none⟩ = false ∧ w.frozen? ⟨k, 4, none⟩ = false ∧ w.frozen? ⟨k, 5, none⟩ = false ∧ w.frozen? ⟨k, 6, none⟩ = false ∧ w.frozen? ⟨k, 7, none⟩ = false ∧ w.frozen? ⟨k, 8, none⟩ = false ∧ w.frozen? ⟨k, 9, none⟩ = false ∧ w.frozen? ⟨k, 10, none⟩ = false ∧ w.frozen? ⟨k, 11, none⟩ = false ∧ w.frozen? ⟨k, 12, none⟩ = false ∧ w.frozen? ⟨k, 13, none⟩ = false ∧ w.frozen? ⟨k, 14, none⟩ = false ∧ w.frozen? ⟨k, 15, none⟩ = false ∧ w.frozen? ⟨k, 16, none⟩ = false) :=
  ⟨h.lt, ⟨h.cell 0, h.cell 1, h.cell 2, h.cell 3, h.cell 4, h.cell 5, h.cell 6, h.cell 7, h.cell 8, h.cell 9, h.cell 10, h.cell 11, h.cell 12, h.cell 13, h.cell 14, h.cell 15, h.cell 16⟩, ⟨h.frozen 0, h.frozen 1, h.frozen 2, h.frozen 3, h.frozen 4, h.frozen 5, h.frozen 6, h.frozen 7, h.frozen 8, h.frozen 9, h.frozen 10, h.frozen 11, h.frozen 12, h.frozen 13, h.frozen 14, h.frozen 15, h.frozen 16⟩⟩
theorem RdS.far17 {g : Nat} {E : Int} {w : World} {t : PSt} {d k : Nat} {u0 u1 u2 u3 u4 u5 u6 u7 u8 u9 u10 u11 u12 u13 u14 u15 u16 : Value} (h : RdS g E w t d) (hk : g < k) : RdS g E (((((((((((((((((w.setCell ⟨k, 0, none⟩ u0).setCell ⟨k, 1, none⟩ u1).setCell ⟨k, 2, none⟩ u2).setCell ⟨k, 3, none⟩ u3).setCell ⟨k, 4, none⟩ u4).setCell ⟨k, 5, none⟩ u5).setCell ⟨k, 6, none⟩ u6).setCell ⟨k, 7, none⟩ u7).setCell ⟨k, 8, none⟩ u8).setCell ⟨k, 9, none⟩ u9).setCell ⟨k, 10, none⟩ u10).setCell ⟨k, 11, none⟩ u11).setCell ⟨k, 12, none⟩ u12).setCell ⟨k, 13, none⟩ u13).setCell ⟨k, 14, none⟩ u14).setCell ⟨k, 15, none⟩ u15).setCell ⟨k, 16, none⟩ u16) t d := (((((((((((((((((h.far hk u0).far hk u1).far hk u2).far hk u3).far hk u4).far hk u5).far hk u6).far hk u7).far hk u8).far hk u9).far hk u10).far hk u11).far hk u12).far hk u13).far hk u14).far hk u15).far hk u16)
theorem Ex.far17 {g : Nat} {a w : World} {k : Nat} {u0 u1 u2 u3 u4 u5 u6 u7 u8 u9 u10 u11 u12 u13 u14 u15 u16 : Value} (h : Ex g a w) (hk : a.heap.size ≤ k) : Ex g a (((((((((((((((((w.setCell ⟨k, 0, none⟩ u0).setCell ⟨k, 1, none⟩ u1).setCell ⟨k, 2, none⟩ u2).setCell ⟨k, 3, none⟩ u3).setCell ⟨k, 4, none⟩ u4).setCell ⟨k, 5, none⟩ u5).setCell ⟨k, 6, none⟩ u6).setCell ⟨k, 7, none⟩ u7).setCell ⟨k, 8, none⟩ u8).setCell ⟨k, 9, none⟩ u9).setCell ⟨k, 10, none⟩ u10).setCell ⟨k, 11, none⟩ u11).setCell ⟨k, 12, none⟩ u12).setCell ⟨k, 13, none⟩ u13).setCell ⟨k, 14, none⟩ u14).setCell ⟨k, 15, none⟩ u15).setCell ⟨k, 16, none⟩ u16) := (((((((((((((((((h.set_ (.inr hk) u0).set_ (.inr hk) u1).set_ (.inr hk) u2).set_ (.inr hk) u3).set_ (.inr hk) u4).set_ (.inr hk) u5).set_ (.inr hk) u6).set_ (.inr hk) u7).set_ (.inr hk) u8).set_ (.inr hk) u9).set_ (.inr hk) u10).set_ (.inr hk) u11).set_ (.inr hk) u12).set_ (.inr hk) u13).set_ (.inr hk) u14).set_ (.inr hk) u15).set_ (.inr hk) u16)
theorem Kp.far17 {K K' : Nat → Prop} {a w : World} {k : Nat} {u0 u1 u2 u3 u4 u5 u6 u7 u8 u9 u10 u11 u12 u13 u14 u15 u16 : Value} (h : Kp K K' a w) (hk : ∀ b, K b → b < a.heap.size → b ≠ k) : Kp K K' a (((((((((((((((((w.setCell ⟨k, 0, none⟩ u0).setCell ⟨k, 1, none⟩ u1).setCell ⟨k, 2, none⟩ u2).setCell ⟨k, 3, none⟩ u3).setCell ⟨k, 4, none⟩ u4).setCell ⟨k, 5, none⟩ u5).setCell ⟨k, 6, none⟩ u6).setCell ⟨k, 7, none⟩ u7).setCell ⟨k, 8, none⟩ u8).setCell ⟨k, 9, none⟩ u9).setCell ⟨k, 10, none⟩ u10).setCell ⟨k, 11, none⟩ u11).setCell ⟨k, 12, none⟩ u12).setCell ⟨k, 13, none⟩ u13).setCell ⟨k, 14, none⟩ u14).setCell ⟨k, 15, none⟩ u15).setCell ⟨k, 16, none⟩ u16) := (((((((((((((((((h.set_ hk u0).set_ hk u1).set_ hk u2).set_ hk u3).set_ hk u4).set_ hk u5).set_ hk u6).set_ hk u7).set_ hk u8).set_ hk u9).set_ hk u10).set_ hk u11).set_ hk u12).set_ hk u13).set_ hk u14).set_ hk u15).set_ hk u16)
theorem Blk.far17 {w : World} {k l : Nat} {t : TypeId} {cs : Array Value} {u0 u1 u2 u3 u4 u5 u6 u7 u8 u9 u10 u11 u12 u13 u14 u15 u16 : Value} (h : Blk w l t cs) (hk : l ≠ k) : Blk (((((((((((((((((w.setCell ⟨k, 0, none⟩ u0).setCell ⟨k, 1, none⟩ u1).setCell ⟨k, 2, none⟩ u2).setCell ⟨k, 3, none⟩ u3).setCell ⟨k, 4, none⟩ u4).setCell ⟨k, 5, none⟩ u5).setCell ⟨k, 6, none⟩ u6).setCell ⟨k, 7, none⟩ u7).setCell ⟨k, 8, none⟩ u8).setCell ⟨k, 9, none⟩ u9).setCell ⟨k, 10, none⟩ u10).setCell ⟨k, 11, none⟩ u11).setCell ⟨k, 12, none⟩ u12).setCell ⟨k, 13, none⟩ u13).setCell ⟨k, 14, none⟩ u14).setCell ⟨k, 15, none⟩ u15).setCell ⟨k, 16, none⟩ u16) l t cs := (((((((((((((((((h.far hk u0).far hk u1).far hk u2).far hk u3).far hk u4).far hk u5).far hk u6).far hk u7).far hk u8).far hk u9).far hk u10).far hk u11).far hk u12).far hk u13).far hk u14).far hk u15).far hk u16)

end
/- ref17: form, next, must, open, shut, number (printed by gen_rb.py). -/
section
open Go.RowKit

theorem Blk.drew {w : World} {k : Nat} {T : TypeId} {cs : Array Value} (h : Blk w k T cs) : Blk w.drew k T cs := h
theorem Bel.far6 {B : Nat} {a w : World} (h : Bel B a w) {k : Nat} (hk : B ≤ k) {u0 u1 u2 u3 u4 u5 : Value} : Bel B a ((((((w.setCell ⟨k, 0, none⟩ u0).setCell ⟨k, 1, none⟩ u1).setCell ⟨k, 2, none⟩ u2).setCell ⟨k, 3, none⟩ u3).setCell ⟨k, 4, none⟩ u4).setCell ⟨k, 5, none⟩ u5) :=
  (((((h.setCell hk u0).setCell hk u1).setCell hk u2).setCell hk u3).setCell hk u4).setCell hk u5
section
variable (A : Option Addr) (all : List TokD) (c k : Nat) (E : Int) (t : PSt) (dp : Int) (w : World)

end

end
/- ref17: number (printed by gen_rb.py). -/
section
open Go.RowKit

section
variable (A : Option Addr) (all : List TokD) (c k : Nat) (E : Int) (t : PSt) (dp : Int) (w : World)

end

end
/- ref17: open (printed by gen_rb.py). -/
section
open Go.RowKit

section
variable (A : Option Addr) (all : List TokD) (c k : Nat) (E : Int) (t : PSt) (dp : Int) (w : World)

end

end

end Go.Proofs.YtpcbcodmocmilaaDoor
