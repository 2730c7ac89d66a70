/- G01: A1, Qa joined. -/
import Derived.Test.YtpcbcodmocmilaaGreatDoorA0
namespace Go.Proofs.YtpcbcodmocmilaaGreatDoor
open Go.RowKit
/- Bytes: heads, digits; plain. -/
section

def hd (l : List UInt8) (c : UInt8) : Bool := match l with | x :: _ => x == c | [] => false
def isDig (c : UInt8) : Bool := decide (48 ≤ c.toNat) && decide (c.toNat ≤ 57)
def digN : List UInt8 → Nat
  | [] => 0
  | c :: r => if isDig c then digN r + 1 else 0
def dr (s : ByteArray) (a : Nat) : List UInt8 := s.data.toList.drop a
theorem dr_dr (s : ByteArray) (a k : Nat) : (dr s a).drop k = dr s (a + k) := by unfold dr; rw [List.drop_drop]
theorem hd_t {s : ByteArray} {p : Nat} {c : UInt8} (h : p < s.size) (e : (s[p].toNat : Int) = (c.toNat : Int)) : hd (dr s p) c = true := by
  rw [dr, drop_cons s p h, hd, beq_iff_eq, ← UInt8.toNat_inj]; omega
theorem hd_f {s : ByteArray} {p : Nat} {c : UInt8} (h : ∀ h : p < s.size, (s[p].toNat : Int) ≠ (c.toNat : Int)) : hd (dr s p) c = false := by
  by_cases hp : p < s.size
  · rw [dr, drop_cons s p hp, hd, beq_eq_false_iff_ne]; intro e; exact h hp (by rw [e])
  · rw [dr, drop_nil s p (by omega)]; rfl
theorem hd_lt {s : ByteArray} {p : Nat} {c : UInt8} (h : hd (dr s p) c = true) : p < s.size := by
  rcases Nat.lt_or_ge p s.size with h' | h'
  · exact h'
  · rw [dr, drop_nil s p h'] at h; cases h
theorem digN_le (l : List UInt8) : digN l ≤ l.length := by
  induction l with
  | nil => simp [digN]
  | cons c r ih => rw [digN]; split <;> simp <;> omega
theorem digN_bd (s : ByteArray) (a : Nat) (h : a ≤ s.size) : a + digN (dr s a) ≤ s.size := by
  have := digN_le (dr s a)
  rw [dr, List.length_drop, show s.data.toList.length = s.size by simp] at this
  unfold dr; omega

theorem dig_int (c : UInt8) : isDig c = true ↔ (48 ≤ (c.toNat : Int) ∧ (c.toNat : Int) ≤ 57) := by
  simp [isDig]; omega


theorem te_t {t : ByteArray} (h : t.size = 0) : t.toList.isEmpty = true := by
  rw [ByteArray.toList_eq]
  have : t.data.toList.length = 0 := by simpa using h
  rw [List.isEmpty_iff]; exact List.eq_nil_of_length_eq_zero this
theorem te_f {t : ByteArray} (h : 0 < t.size) : t.toList.isEmpty = false := by
  rw [ByteArray.toList_eq]
  have : 0 < t.data.toList.length := by simpa using h
  cases hl : t.data.toList with
  | nil => rw [hl] at this; simp at this
  | cons => rfl
def bs (l : List UInt8) : ByteArray := ⟨l.toArray⟩
theorem bs_of {t : ByteArray} {l : List UInt8} (h : t.data.toList = l) : t = bs l := by
  subst h; apply ByteArray.ext; apply Array.toList_inj.1; simp [bs]
theorem bs_list (l : List UInt8) : (bs l).data.toList = l := by simp [bs]

end
/- Queries as trees: plain data, and how they lie in memory (no word of a dump). -/
section

structure SelG (E : Type) where
  kind : Int
  name : List UInt8
  index : Int
  fr : Int
  tt : Int
  step : Int
  hf : Bool
  ht : Bool
  f : Option E
structure SegG (E : Type) where
  deep : Bool
  sels : List (SelG E)
structure PathG (E : Type) where
  abs : Bool
  segs : List (SegG E)
structure SideG (E : Type) where
  lit : Bool
  kind : Int
  n : Int
  s : List UInt8
  p : PathG E
structure ExprT where
  kind : Int
  kids : List ExprT
  q : PathG ExprT
  op : Int
  left : SideG ExprT
  right : SideG ExprT
abbrev SelT := SelG ExprT
abbrev SegT := SegG ExprT
abbrev PathT := PathG ExprT
abbrev SideT := SideG ExprT
def path0 : PathT := ⟨false, []⟩
def side0 : SideT := ⟨false, 0, 0, [], path0⟩
def expr0 : ExprT := ⟨0, [], path0, 0, side0, side0⟩
def sel0 : SelT := ⟨0, [], 0, 0, 0, 0, false, false, none⟩

/-- A slice that reads as a list: k cells an element, in a block that K lets. -/
def RowG {α : Type} (K : Nat → Prop) (k : Nat) (R : List Value → α → Prop) (w : World) (v : Value) (l : List α) : Prop :=
  ∃ A cap, v = .slice A l.length cap ∧ (l.length ≤ cap ∧ cap ≤ 9223372036854775807) ∧ (l = [] ∨ ∃ b off, A = some ⟨b, off, none⟩ ∧ K b ∧ b < w.heap.size ∧ ∀ (i : Nat) (x : α), l[i]? = some x → ∃ cs : List Value, cs.length = k ∧ (∀ (j : Nat) u, cs[j]? = some u → w.cell? ⟨b, off + i * k + j, none⟩ = some u) ∧ R cs x)
def PtrG (K : Nat → Prop) (R : List Value → ExprT → Prop) (w : World) (v : Value) : Option ExprT → Prop
  | none => v = .pointer none
  | some e => ∃ b off, ∃ cs : List Value, v = .pointer (some ⟨b, off, none⟩) ∧ K b ∧ b < w.heap.size ∧ cs.length = 17 ∧ (∀ (j : Nat) u, cs[j]? = some u → w.cell? ⟨b, off + j, none⟩ = some u) ∧ R cs e
def selL (x : SelT) (pv : Value) : List Value := [.int .i64 x.kind, .string (bs x.name), .int .i64 x.index, .int .i64 x.fr, .int .i64 x.tt, .int .i64 x.step, .bool x.hf, .bool x.ht, pv]
def SelC (K : Nat → Prop) (R : List Value → ExprT → Prop) (w : World) (cs : List Value) (x : SelT) : Prop := ∃ pv, cs = selL x pv ∧ PtrG K R w pv x.f
def SegC (K : Nat → Prop) (R : List Value → ExprT → Prop) (w : World) (cs : List Value) (x : SegT) : Prop := ∃ sv, cs = [.bool x.deep, sv] ∧ RowG K 9 (SelC K R w) w sv x.sels
def SegsG (K : Nat → Prop) (R : List Value → ExprT → Prop) (w : World) (v : Value) (l : List SegT) : Prop := RowG K 2 (SegC K R w) w v l
def sideL (x : SideT) (pv : Value) : List Value := [.bool x.lit, .int .i64 x.kind, .int .i64 x.n, .string (bs x.s), .bool x.p.abs, pv]
def exL (x : ExprT) (kv qv lv rv : Value) : List Value := [.int .i64 x.kind, kv, .bool x.q.abs, qv, .int .i64 x.op, .bool x.left.lit, .int .i64 x.left.kind, .int .i64 x.left.n, .string (bs x.left.s), .bool x.left.p.abs, lv, .bool x.right.lit, .int .i64 x.right.kind, .int .i64 x.right.n, .string (bs x.right.s), .bool x.right.p.abs, rv]
def ExprC (K : Nat → Prop) (R : List Value → ExprT → Prop) (w : World) (cs : List Value) (x : ExprT) : Prop :=
  ∃ kv qv lv rv, cs = exL x kv qv lv rv ∧ RowG K 17 R w kv x.kids ∧ SegsG K R w qv x.q.segs ∧ SegsG K R w lv x.left.p.segs ∧ SegsG K R w rv x.right.p.segs
/-- Seventeen cells hold an expression, of at most n levels. -/
def ExR (K : Nat → Prop) : Nat → World → List Value → ExprT → Prop
  | 0, _, _, _ => False
  | n + 1, w, cs, x => ExprC K (ExR K n w) w cs x

/-- What keeps a tree. -/
structure Kp (K K' : Nat → Prop) (w w' : World) : Prop where
  size : w.heap.size ≤ w'.heap.size
  block : ∀ b, K b → b < w.heap.size → K' b ∧ w'.heap[b]? = w.heap[b]?
theorem Kp.cell {K K' : Nat → Prop} {w w' : World} (h : Kp K K' w w') {b o : Nat} (hK : K b) (hb : b < w.heap.size) : w'.cell? ⟨b, o, none⟩ = w.cell? ⟨b, o, none⟩ := World.cell?_of_block (h.block b hK hb).2
theorem RowG.keep {α : Type} {K K' : Nat → Prop} {k : Nat} {R R' : List Value → α → Prop} {w w' : World} {v : Value} {l : List α} (h : RowG K k R w v l) (hk : Kp K K' w w') (hR : ∀ cs x, R cs x → R' cs x) : RowG K' k R' w' v l := by
  obtain ⟨A, cap, h1, h2, h3⟩ := h
  refine ⟨A, cap, h1, h2, h3.imp id ?_⟩
  rintro ⟨b, off, e, hK, hb, hc⟩
  refine ⟨b, off, e, (hk.block b hK hb).1, Nat.lt_of_lt_of_le hb hk.size, fun i x hx => ?_⟩
  obtain ⟨cs, hl, hcs, hr⟩ := hc i x hx
  exact ⟨cs, hl, fun j u hu => (hk.cell hK hb).trans (hcs j u hu), hR cs x hr⟩
theorem PtrG.keep {K K' : Nat → Prop} {R R' : List Value → ExprT → Prop} {w w' : World} {v : Value} {f : Option ExprT} (h : PtrG K R w v f) (hk : Kp K K' w w') (hR : ∀ cs x, R cs x → R' cs x) : PtrG K' R' w' v f := by
  cases f with
  | none => exact h
  | some e =>
    obtain ⟨b, off, cs, h1, hK, hb, hl, hcs, hr⟩ := h
    exact ⟨b, off, cs, h1, (hk.block b hK hb).1, Nat.lt_of_lt_of_le hb hk.size, hl, fun j u hu => (hk.cell hK hb).trans (hcs j u hu), hR cs e hr⟩
theorem SelC.keep {K K' : Nat → Prop} {R R' : List Value → ExprT → Prop} {w w' : World} {cs : List Value} {x : SelT} (h : SelC K R w cs x) (hk : Kp K K' w w') (hR : ∀ cs x, R cs x → R' cs x) : SelC K' R' w' cs x := by
  obtain ⟨pv, h1, h2⟩ := h
  exact ⟨pv, h1, h2.keep hk hR⟩
theorem SegC.keep {K K' : Nat → Prop} {R R' : List Value → ExprT → Prop} {w w' : World} {cs : List Value} {x : SegT} (h : SegC K R w cs x) (hk : Kp K K' w w') (hR : ∀ cs x, R cs x → R' cs x) : SegC K' R' w' cs x := by
  obtain ⟨sv, h1, h2⟩ := h
  exact ⟨sv, h1, h2.keep hk fun _ _ h => h.keep hk hR⟩
theorem SegsG.keep {K K' : Nat → Prop} {R R' : List Value → ExprT → Prop} {w w' : World} {v : Value} {l : List SegT} (h : SegsG K R w v l) (hk : Kp K K' w w') (hR : ∀ cs x, R cs x → R' cs x) : SegsG K' R' w' v l :=
  RowG.keep h hk fun _ _ h => h.keep hk hR
theorem ExprC.keep {K K' : Nat → Prop} {R R' : List Value → ExprT → Prop} {w w' : World} {cs : List Value} {x : ExprT} (h : ExprC K R w cs x) (hk : Kp K K' w w') (hR : ∀ cs x, R cs x → R' cs x) : ExprC K' R' w' cs x := by
  obtain ⟨kv, qv, lv, rv, h1, h2, h3, h4, h5⟩ := h
  exact ⟨kv, qv, lv, rv, h1, h2.keep hk hR, h3.keep hk hR, h4.keep hk hR, h5.keep hk hR⟩
theorem ExR.keep {K K' : Nat → Prop} {w w' : World} (hk : Kp K K' w w') : ∀ (n m : Nat), n ≤ m → ∀ (cs : List Value) (x : ExprT), ExR K n w cs x → ExR K' m w' cs x
  | 0, _, _, _, _, h => h.elim
  | n + 1, 0, hn, _, _, _ => absurd hn (by omega)
  | n + 1, m + 1, hn, cs, x, h => ExprC.keep h hk fun cs x h => ExR.keep hk n m (by omega) cs x h
theorem Kp.refl (K : Nat → Prop) (w : World) : Kp K K w w := ⟨Nat.le_refl _, fun _ h _ => ⟨h, rfl⟩⟩
theorem Kp.trans {K K' K'' : Nat → Prop} {a b c : World} (h : Kp K K' a b) (k : Kp K' K'' b c) : Kp K K'' a c :=
  ⟨Nat.le_trans h.size k.size, fun i hi hl => ⟨(k.block i (h.block i hi hl).1 (Nat.lt_of_lt_of_le hl h.size)).1, (k.block i (h.block i hi hl).1 (Nat.lt_of_lt_of_le hl h.size)).2.trans (h.block i hi hl).2⟩⟩
theorem Kp.of_bel {K K' : Nat → Prop} {w w' : World} (h : Bel w.heap.size w w') (hK : ∀ b, K b → b < w.heap.size → K' b) : Kp K K' w w' := ⟨h.size, fun b hb hl => ⟨hK b hb hl, h.block b hl⟩⟩

end

end Go.Proofs.YtpcbcodmocmilaaGreatDoor
