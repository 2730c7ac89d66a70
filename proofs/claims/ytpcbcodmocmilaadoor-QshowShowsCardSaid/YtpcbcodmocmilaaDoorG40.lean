/- G40: Cb, Cg, Ch, Ci, Cj joined. -/
import Derived.Deep.LoopGhost
import Derived.Test.YtpcbcodmocmilaaDoorCa
import Derived.Test.YtpcbcodmocmilaaDoorG34
namespace Go.Proofs.YtpcbcodmocmilaaDoor
open Go.RowKit
/- Code of a tree, on lists: the mirror, and what it is like (plain; no word of a dump). -/
section

section
variable {S : List UInt8 → Prop}
end

end
/- ref19: expr, but for or and and (printed by gen_cg.py). -/
section
open Go.RowKit

section
variable (B1 B2 B3 A4 A5 : Option Addr) (m1 d1 m2 d2 m3 d3 c4 c5 n4 nw : Nat) (xs wc : List Value) (w : World)
section
variable (h4 : Rdd w 7 A4 n4 xs) (h5 : Rdd w 2 A5 nw wc) (h0 : ∀ u ∈ xs, u.oneCell' = true) (h1 : ∀ u ∈ wc, u.oneCell' = true) (hl : n4 ≤ 999990) (hlw : nw ≤ 999990)
include h4 h5 h0 h1 hl hlw

end
end

end
/- Jumps laid, and turned once their place is known; rows written into (no word of a dump but the types'). -/
section
open Go.RowKit

section
variable {I : Nat → Nat → ExprT → List InsD} {L Wt : ExprT → Nat} {op : Int} {E : Nat}
end
/-! ## Rows as blocks -/
section
variable {X : List Nat} {w0 w : World} {L : List BlkE} {rs : List RowE} {J : World → Prop} {v : Value} {T : TypeId} {k n : Nat} {xs : List Value}
end
end
/- ref19: expr, or and and (printed by gen_ci.py). -/
section
open Go.RowKit

def wC (z : PathT × Value) : List Value := [.bool z.1.abs, z.2]
section
variable (B1 B2 B3 A4 A5 : Option Addr) (m1 d1 m2 d2 m3 d3 c4 c5 n4 nw : Nat) (is : List InsD) (wc : List Value) (w : World)

end

end
/- ref19: expr, of whatever tree. -/
section
open Go.RowKit

/-- A block that is there. -/
def Lw (w : World) (b : Nat) : Prop := b < w.heap.size
/-- A path that waits: its segments lie in memory. -/
def TreeV (wT : World) (z : PathT × Value) : Prop := ∃ A c m, z.2 = .slice A z.1.segs.length c ∧ SegsG (Lw wT) (ExR (Lw wT) m wT) wT (.slice A z.1.segs.length c) z.1.segs
theorem TreeV.one {wT : World} {z : PathT × Value} (h : TreeV wT z) : ∀ u ∈ wC z, u.oneCell' = true := by
  obtain ⟨A, c, m, e, _⟩ := h
  unfold wC
  rw [e]
  exact allOne_mem rfl
theorem SegsG.tree {wT : World} {m : Nat} {v : Value} {p : PathT} (h : SegsG (Lw wT) (ExR (Lw wT) m wT) wT v p.segs) : TreeV wT (p, v) := by
  obtain ⟨A, c, rfl, h2, h3⟩ := h
  exact ⟨A, c, m, rfl, A, c, rfl, h2, h3⟩
section
variable {S : List UInt8 → Prop} {wT : World} {n : Nat}
end
end

end Go.Proofs.YtpcbcodmocmilaaDoor
