/- G02: Ox, A1, Qa joined. -/
import Derived.Deep.RegionHeld3
import Derived.Test.YtpcbcodmocmilaaDoorOw
import Derived.Test.YtpcbcodmocmilaaDoorA0
namespace Go.Proofs.YtpcbcodmocmilaaDoor
open Go.RowKit
/- Own blocks: the steps of a region that draws its order (no word of a dump). -/
section
open Go.RowKit

section
variable {P : Program} {X : List Nat} {w0 w : World} {L L' : List BlkE} {rs : List RowE} {J S : World → Prop} {ops : Array Oper} {o : Oper} {a : Act} {Q : Exit → Act → World → Prop} {md : Region.Mode} {fuel i : Nat} {listed : Array Bool} {is : List Nat} {dst : Option Tmp} {tt : TypeId} {pos : String} {af : Array Edge}
theorem wp_of_call {K : Act → World → Prop} {f : FuncId} {args : Array Value} (hrun : (execOp a.eval o).run P w = .ok (.enter f args) w) (hc : Calls P f args w fun e w' => ∃ v, e = .returned v ∧ K (a.put o.dst v) w') : o.wp P a w K Q := by
  unfold Oper.wp
  rw [hrun, Oper.upon_enter]
  refine hc.mono ?_
  rintro e w' ⟨v, rfl, h⟩
  exact h
theorem rdy (ho : ops[i]? = some o) (hgd : o.guard = none) (h : ∀ K : Act → World → Prop, Shut (∀ a w, S w → (S w → wpAnyH P md ops Q S fuel (listed.setIfInBounds i true) a w) → K a w) → Oper.wp P o a w K Q) (hs : AllReadyH P md ops Q S fuel listed a w is) : AllReadyH P md ops Q S fuel listed a w (i :: is) :=
  AllReadyH.cons ho (fun K hK => by
    rw [if_pos (by simp [Region.wanted, hgd])]
    exact h K hK) hs
theorem rdy_store (ty : TypeId) (x y : Operand) (ho : ops[i]? = some ⟨dst, .store ty x y, tt, pos, af, none⟩) (g : Nat) (hx : a.eval x = .pointer (some ⟨g, 0, none⟩)) (cs : Array Value) (hy : a.eval y = .agg cs) (M : Own X w0 w L rs J) (old : Array Value) (hm : Upd g old cs L L')
    (n : Nat) (hi : (P.info? ty).map (·.size) = some n) (hn : cs.size = n) (hold : old.size = n) (h1 : allOne cs.toList = true)
    (h : ∀ w', Own X w0 w' L' rs J → S w' ∧ wpAnyH P md ops Q S fuel (listed.setIfInBounds i true) (a.put dst undef) w') (hs : AllReadyH P md ops Q S fuel listed a w is) : AllReadyH P md ops Q S fuel listed a w (i :: is) := by
  refine rdy ho rfl (fun K hK => ?_) hs
  have M' := M.setRow hm
  obtain ⟨A, T, B, rfl, rfl⟩ := hm.split
  obtain ⟨h2, h3⟩ := h _ M'
  exact wp_store_row ty x y rfl g cs hx hy T old (M.blk (g, T, old) (by simp)) (by rw [hn]; exact hi) (by rw [hn, hold]) (allOne_all h1) (hK.out _ _ h2 fun _ => h3)
theorem rdy_call {f : FuncId} {args : Array Value} {R : Ending → World → Prop} (hc : Calls P f args w R) {op : Op} (ho : ops[i]? = some ⟨dst, op, tt, pos, af, none⟩) (hrun : (execOp a.eval ⟨dst, op, tt, pos, af, none⟩).run P w = .ok (.enter f args) w)
    (h : ∀ e w', R e w' → ∃ v, e = .returned v ∧ S w' ∧ wpAnyH P md ops Q S fuel (listed.setIfInBounds i true) (a.put dst v) w') (hs : AllReadyH P md ops Q S fuel listed a w is) : AllReadyH P md ops Q S fuel listed a w (i :: is) := by
  refine rdy ho rfl (fun K hK => ?_) hs
  refine wp_of_call hrun (hc.mono fun e w' he => ?_)
  obtain ⟨v, h1, h2, h3⟩ := h e w' he
  exact ⟨v, h1, hK.out _ _ h2 fun _ => h3⟩
theorem rdy_buildSlice (t e : TypeId) (len : Nat) (parts : Array (Nat × Operand)) (ho : ops[i]? = some ⟨dst, .buildSlice t len parts, tt, pos, af, none⟩) (hu : P.underlying t = some (.slice e)) (cs : Array Value)
    (hf : P.builtSlice e len (parts.map fun (i, x) => (i, a.eval x)).toList = some cs) (M : Own X w0 w L rs J)
    (h : ∀ g w', w0.heap.size ≤ g → g = w.heap.size → Own X w0 w' ((g, e, cs) :: L) rs J → S w' ∧ wpAnyH P md ops Q S fuel (listed.setIfInBounds i true) (a.put dst (.slice (some ⟨g, 0, none⟩) len len)) w') (hs : AllReadyH P md ops Q S fuel listed a w is) : AllReadyH P md ops Q S fuel listed a w (i :: is) := by
  refine rdy ho rfl (fun K hK => ?_) hs
  obtain ⟨h2, h3⟩ := h _ _ M.size rfl (M.alloc e cs)
  have h4 := hK.out _ _ h2 fun _ => h3
  unfold Program.builtSlice at hf
  cases hie : P.info? e with
  | none => simp [hie] at hf
  | some ie =>
    simp only [hie] at hf
    cases hz : ie.zero with
    | none => simp [hz] at hf
    | some z =>
      simp only [hz] at hf
      by_cases hc : len * ie.size > 2 ^ 24 ∨ len * ie.size = 0
      · simp [hc] at hf
      · rw [if_neg hc] at hf
        exact wp_buildSlice t e len parts rfl cs ie z hu hie hz (fun h' => hc (Or.inl h')) (fun h' => hc (Or.inr h')) hf h4
theorem yields_load_row (ty : TypeId) (x : Operand) (g : Nat) (hx : a.eval x = .pointer (some ⟨g, 0, none⟩)) (T : TypeId) (cs : Array Value) (hS : ∀ w, S w → Blk w g T cs) (d : TypeDesc) (hu : P.underlying ty = some d) (hd : isRowT d = true) (n : Nat) (hi : (P.info? ty).map (·.size) = some n) (hn : cs.size = n) : YieldsIf P ops S ⟨dst, .load ty x, tt, pos, af, none⟩ (.agg cs) a :=
  .inl ⟨by simp [Region.wanted], fun w hw' => by
    unfold execOp
    simp only [hx, Instr.loadAt, Instr.sureAddr, Sem.run_bind, Sem.run_pure, Result.andThen_ok, run_loadVar_row w g T ty cs (0, 0) d (hS w hw') hu (by cases d <;> first | rfl | cases hd) (by rw [hn]; exact hi)]⟩
end

end
/- Bytes: heads, digits; plain. -/
section

def hd (l : List UInt8) (c : UInt8) : Bool := match l with | x :: _ => x == c | [] => false
def isDig (c : UInt8) : Bool := decide (48 ≤ c.toNat) && decide (c.toNat ≤ 57)
def digN : List UInt8 → Nat
  | [] => 0
  | c :: r => if isDig c then digN r + 1 else 0
def dr (s : ByteArray) (a : Nat) : List UInt8 := s.data.toList.drop a
theorem dr_dr (s : ByteArray) (a k : Nat) : (dr s a).drop k = dr s (a + k) := by unfold dr; rw [List.drop_drop]
theorem digN_le (l : List UInt8) : digN l ≤ l.length := by
  induction l with
  | nil => simp [digN]
  | cons c r ih => rw [digN]; split <;> simp <;> omega
theorem digN_bd (s : ByteArray) (a : Nat) (h : a ≤ s.size) : a + digN (dr s a) ≤ s.size := by
  have := digN_le (dr s a)
  rw [dr, List.length_drop, show s.data.toList.length = s.size by simp] at this
  unfold dr; omega

theorem hd_i {s : ByteArray} {p : Nat} {c : UInt8} (h : p < s.size) : hd (dr s p) c = ((s[p].toNat : Int) == (c.toNat : Int)) := by
  rw [dr, drop_cons s p h, hd, Bool.eq_iff_iff, beq_iff_eq, beq_iff_eq, ← UInt8.toNat_inj]; omega
theorem hd_i' {s : ByteArray} {p : Nat} {c : UInt8} {n : Int} (h : p < s.size) (e : (c.toNat : Int) = n) : ((s[p].toNat : Int) == n) = hd (dr s p) c := by rw [hd_i h, e]
theorem dig_int (c : UInt8) : isDig c = true ↔ (48 ≤ (c.toNat : Int) ∧ (c.toNat : Int) ≤ 57) := by
  simp [isDig]; omega


def bs (l : List UInt8) : ByteArray := ⟨l.toArray⟩
theorem bs_of {t : ByteArray} {l : List UInt8} (h : t.data.toList = l) : t = bs l := by
  subst h; apply ByteArray.ext; apply Array.toList_inj.1; simp [bs]
theorem bs_list (l : List UInt8) : (bs l).data.toList = l := by simp [bs]

end
/- Queries as trees: plain data, and how they lie in memory (no word of a dump). -/
section

structure SelG (E : Type) where
  kind : Int
  name : List UInt8
  index : Int
  fr : Int
  tt : Int
  step : Int
  hf : Bool
  ht : Bool
  f : Option E
structure SegG (E : Type) where
  deep : Bool
  sels : List (SelG E)
structure PathG (E : Type) where
  abs : Bool
  segs : List (SegG E)
structure SideG (E : Type) where
  lit : Bool
  kind : Int
  n : Int
  s : List UInt8
  p : PathG E
structure ExprT where
  kind : Int
  kids : List ExprT
  q : PathG ExprT
  op : Int
  left : SideG ExprT
  right : SideG ExprT
abbrev SelT := SelG ExprT
abbrev SegT := SegG ExprT
abbrev PathT := PathG ExprT
abbrev SideT := SideG ExprT
def path0 : PathT := ⟨false, []⟩
def side0 : SideT := ⟨false, 0, 0, [], path0⟩
def expr0 : ExprT := ⟨0, [], path0, 0, side0, side0⟩
def sel0 : SelT := ⟨0, [], 0, 0, 0, 0, false, false, none⟩

/-- A slice that reads as a list: k cells an element, in a block that K lets. -/
def RowG {α : Type} (K : Nat → Prop) (k : Nat) (R : List Value → α → Prop) (w : World) (v : Value) (l : List α) : Prop :=
  ∃ A cap, v = .slice A l.length cap ∧ (l.length ≤ cap ∧ cap ≤ 9223372036854775807) ∧ (l = [] ∨ ∃ b off, A = some ⟨b, off, none⟩ ∧ K b ∧ b < w.heap.size ∧ ∀ (i : Nat) (x : α), l[i]? = some x → ∃ cs : List Value, cs.length = k ∧ (∀ (j : Nat) u, cs[j]? = some u → w.cell? ⟨b, off + i * k + j, none⟩ = some u) ∧ R cs x)
def PtrG (K : Nat → Prop) (R : List Value → ExprT → Prop) (w : World) (v : Value) : Option ExprT → Prop
  | none => v = .pointer none
  | some e => ∃ b off, ∃ cs : List Value, v = .pointer (some ⟨b, off, none⟩) ∧ K b ∧ b < w.heap.size ∧ cs.length = 17 ∧ (∀ (j : Nat) u, cs[j]? = some u → w.cell? ⟨b, off + j, none⟩ = some u) ∧ R cs e
def selL (x : SelT) (pv : Value) : List Value := [.int .i64 x.kind, .string (bs x.name), .int .i64 x.index, .int .i64 x.fr, .int .i64 x.tt, .int .i64 x.step, .bool x.hf, .bool x.ht, pv]
def SelC (K : Nat → Prop) (R : List Value → ExprT → Prop) (w : World) (cs : List Value) (x : SelT) : Prop := ∃ pv, cs = selL x pv ∧ PtrG K R w pv x.f
def SegC (K : Nat → Prop) (R : List Value → ExprT → Prop) (w : World) (cs : List Value) (x : SegT) : Prop := ∃ sv, cs = [.bool x.deep, sv] ∧ RowG K 9 (SelC K R w) w sv x.sels
def SegsG (K : Nat → Prop) (R : List Value → ExprT → Prop) (w : World) (v : Value) (l : List SegT) : Prop := RowG K 2 (SegC K R w) w v l
def sideL (x : SideT) (pv : Value) : List Value := [.bool x.lit, .int .i64 x.kind, .int .i64 x.n, .string (bs x.s), .bool x.p.abs, pv]
def exL (x : ExprT) (kv qv lv rv : Value) : List Value := [.int .i64 x.kind, kv, .bool x.q.abs, qv, .int .i64 x.op, .bool x.left.lit, .int .i64 x.left.kind, .int .i64 x.left.n, .string (bs x.left.s), .bool x.left.p.abs, lv, .bool x.right.lit, .int .i64 x.right.kind, .int .i64 x.right.n, .string (bs x.right.s), .bool x.right.p.abs, rv]
def ExprC (K : Nat → Prop) (R : List Value → ExprT → Prop) (w : World) (cs : List Value) (x : ExprT) : Prop :=
  ∃ kv qv lv rv, cs = exL x kv qv lv rv ∧ RowG K 17 R w kv x.kids ∧ SegsG K R w qv x.q.segs ∧ SegsG K R w lv x.left.p.segs ∧ SegsG K R w rv x.right.p.segs
/-- Seventeen cells hold an expression, of at most n levels. -/
def ExR (K : Nat → Prop) : Nat → World → List Value → ExprT → Prop
  | 0, _, _, _ => False
  | n + 1, w, cs, x => ExprC K (ExR K n w) w cs x

/-- What keeps a tree. -/
structure Kp (K K' : Nat → Prop) (w w' : World) : Prop where
  size : w.heap.size ≤ w'.heap.size
  block : ∀ b, K b → b < w.heap.size → K' b ∧ w'.heap[b]? = w.heap[b]?
theorem Kp.cell {K K' : Nat → Prop} {w w' : World} (h : Kp K K' w w') {b o : Nat} (hK : K b) (hb : b < w.heap.size) : w'.cell? ⟨b, o, none⟩ = w.cell? ⟨b, o, none⟩ := World.cell?_of_block (h.block b hK hb).2
theorem RowG.keep {α : Type} {K K' : Nat → Prop} {k : Nat} {R R' : List Value → α → Prop} {w w' : World} {v : Value} {l : List α} (h : RowG K k R w v l) (hk : Kp K K' w w') (hR : ∀ cs x, R cs x → R' cs x) : RowG K' k R' w' v l := by
  obtain ⟨A, cap, h1, h2, h3⟩ := h
  refine ⟨A, cap, h1, h2, h3.imp id ?_⟩
  rintro ⟨b, off, e, hK, hb, hc⟩
  refine ⟨b, off, e, (hk.block b hK hb).1, Nat.lt_of_lt_of_le hb hk.size, fun i x hx => ?_⟩
  obtain ⟨cs, hl, hcs, hr⟩ := hc i x hx
  exact ⟨cs, hl, fun j u hu => (hk.cell hK hb).trans (hcs j u hu), hR cs x hr⟩
theorem PtrG.keep {K K' : Nat → Prop} {R R' : List Value → ExprT → Prop} {w w' : World} {v : Value} {f : Option ExprT} (h : PtrG K R w v f) (hk : Kp K K' w w') (hR : ∀ cs x, R cs x → R' cs x) : PtrG K' R' w' v f := by
  cases f with
  | none => exact h
  | some e =>
    obtain ⟨b, off, cs, h1, hK, hb, hl, hcs, hr⟩ := h
    exact ⟨b, off, cs, h1, (hk.block b hK hb).1, Nat.lt_of_lt_of_le hb hk.size, hl, fun j u hu => (hk.cell hK hb).trans (hcs j u hu), hR cs e hr⟩
theorem SelC.keep {K K' : Nat → Prop} {R R' : List Value → ExprT → Prop} {w w' : World} {cs : List Value} {x : SelT} (h : SelC K R w cs x) (hk : Kp K K' w w') (hR : ∀ cs x, R cs x → R' cs x) : SelC K' R' w' cs x := by
  obtain ⟨pv, h1, h2⟩ := h
  exact ⟨pv, h1, h2.keep hk hR⟩
theorem SegC.keep {K K' : Nat → Prop} {R R' : List Value → ExprT → Prop} {w w' : World} {cs : List Value} {x : SegT} (h : SegC K R w cs x) (hk : Kp K K' w w') (hR : ∀ cs x, R cs x → R' cs x) : SegC K' R' w' cs x := by
  obtain ⟨sv, h1, h2⟩ := h
  exact ⟨sv, h1, h2.keep hk fun _ _ h => h.keep hk hR⟩
theorem SegsG.keep {K K' : Nat → Prop} {R R' : List Value → ExprT → Prop} {w w' : World} {v : Value} {l : List SegT} (h : SegsG K R w v l) (hk : Kp K K' w w') (hR : ∀ cs x, R cs x → R' cs x) : SegsG K' R' w' v l :=
  RowG.keep h hk fun _ _ h => h.keep hk hR
theorem ExprC.keep {K K' : Nat → Prop} {R R' : List Value → ExprT → Prop} {w w' : World} {cs : List Value} {x : ExprT} (h : ExprC K R w cs x) (hk : Kp K K' w w') (hR : ∀ cs x, R cs x → R' cs x) : ExprC K' R' w' cs x := by
  obtain ⟨kv, qv, lv, rv, h1, h2, h3, h4, h5⟩ := h
  exact ⟨kv, qv, lv, rv, h1, h2.keep hk hR, h3.keep hk hR, h4.keep hk hR, h5.keep hk hR⟩
theorem ExR.keep {K K' : Nat → Prop} {w w' : World} (hk : Kp K K' w w') : ∀ (n m : Nat), n ≤ m → ∀ (cs : List Value) (x : ExprT), ExR K n w cs x → ExR K' m w' cs x
  | 0, _, _, _, _, h => h.elim
  | n + 1, 0, hn, _, _, _ => absurd hn (by omega)
  | n + 1, m + 1, hn, cs, x, h => ExprC.keep h hk fun cs x h => ExR.keep hk n m (by omega) cs x h
theorem Kp.refl (K : Nat → Prop) (w : World) : Kp K K w w := ⟨Nat.le_refl _, fun _ h _ => ⟨h, rfl⟩⟩
theorem Kp.trans {K K' K'' : Nat → Prop} {a b c : World} (h : Kp K K' a b) (k : Kp K' K'' b c) : Kp K K'' a c :=
  ⟨Nat.le_trans h.size k.size, fun i hi hl => ⟨(k.block i (h.block i hi hl).1 (Nat.lt_of_lt_of_le hl h.size)).1, (k.block i (h.block i hi hl).1 (Nat.lt_of_lt_of_le hl h.size)).2.trans (h.block i hi hl).2⟩⟩
theorem Kp.of_bel {K K' : Nat → Prop} {w w' : World} (h : Bel w.heap.size w w') (hK : ∀ b, K b → b < w.heap.size → K' b) : Kp K K' w w' := ⟨h.size, fun b hb hl => ⟨hK b hb hl, h.block b hl⟩⟩

end

end Go.Proofs.YtpcbcodmocmilaaDoor
