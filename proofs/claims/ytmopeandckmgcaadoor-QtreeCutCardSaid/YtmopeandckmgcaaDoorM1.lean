/- M1: A0, A1, Fl, Ua, Ub, Uc, Ud, Ue, Uf, Ug, Uh, Up, Uq, Wb joined. -/
import Derived.WalkKit
import Derived.WalkSpells
import Derived.WalkLawsBesides
import Derived.Lib.Hide
import Derived.Deep.QuietTactic
import Derived.BigQuiet
import Derived.Deep.Draws
import Derived.IntWalk
import Derived.Handy
import Derived.WalkSmall
import Derived.Deep.RegionWith
import Derived.Deep.DeepCutAuto
import Derived.Maps.AppendAt
import Derived.Deep.AppendLies
import Derived.Laws.BytesArg
import Derived.Test.YtmopeandckmgcaaDoorRows
namespace Go.Proofs.YtmopeandckmgcaaDoor
open Go.RowKit
/- Words for all: memory, bytes, returns. -/

theorem ret_bool {a b : Bool} (h : a = b) : Ending.returned (.bool a) = .returned (.bool b) := by rw [h]
theorem ret_str {a b : ByteArray} (h : a = b) : Ending.returned (.string a) = .returned (.string b) := by rw [h]
theorem ret_int {k : IntKind} {a b : Int} (h : a = b) : Ending.returned (.int k a) = .returned (.int k b) := by rw [h]
theorem drop_cons (s : ByteArray) (k : Nat) (h : k < s.size) : s.data.toList.drop k = s[k] :: s.data.toList.drop (k + 1) := by
  rw [List.drop_eq_getElem_cons (by simpa using h)]; rfl
theorem drop_nil (s : ByteArray) (k : Nat) (h : s.size ≤ k) : s.data.toList.drop k = [] := by
  apply List.drop_of_length_le; simpa using h
/-- The slice of address A reads as the list xs, one cell an element. -/
def Rd (w : World) (A : Option Addr) (xs : List Value) : Prop :=
  xs = [] ∨ ∃ b off, A = some ⟨b, off, none⟩ ∧ b < w.heap.size ∧ ∀ i u, xs[i]? = some u → w.cell? ⟨b, off + i, none⟩ = some u

theorem Rd.below {w w' : World} {A : Option Addr} {xs : List Value} {B : Nat} (h : Rd w A xs) (hb : Below B w w') (hB : w.heap.size ≤ B) : Rd w' A xs := by
  rcases h with h | ⟨b, off, e, hlt, hc⟩
  · exact .inl h
  · exact .inr ⟨b, off, e, by have := hb.size; omega, fun i u hu => (hb.cell (p := ⟨b, off + i, none⟩) (by show b < B; omega)).trans (hc i u hu)⟩
theorem Rd.drew {w : World} {A : Option Addr} {xs : List Value} (h : Rd w A xs) : Rd w.drew A xs := h
theorem Rd.drewN {w : World} {A : Option Addr} {xs : List Value} (h : Rd w A xs) (n : Nat) : Rd (w.drewN n) A xs := h
theorem Rd.alloc {w : World} {A : Option Addr} {xs : List Value} (h : Rd w A xs) (o : Obj) : Rd (w.alloc o) A xs := h.below ((Below.refl _ _).alloc (Nat.le_refl _) o) (Nat.le_refl _)
theorem Rd.nil (w : World) (A : Option Addr) : Rd w A [] := .inl rfl
theorem Rd.cons {w : World} {A : Option Addr} {x : Value} {xs : List Value} (h : Rd w A (x :: xs)) : ∃ b off, A = some ⟨b, off, none⟩ ∧ b < w.heap.size ∧ ∀ i u, (x :: xs)[i]? = some u → w.cell? ⟨b, off + i, none⟩ = some u :=
  h.resolve_left (by simp)
theorem Rd.pos {w : World} {A : Option Addr} {xs : List Value} (h : Rd w A xs) (hp : 0 < xs.length) : ∃ b off, A = some ⟨b, off, none⟩ ∧ b < w.heap.size ∧ ∀ i u, xs[i]? = some u → w.cell? ⟨b, off + i, none⟩ = some u :=
  h.resolve_left (by rintro rfl; simp at hp)
/-- What an owned row reads as. -/
theorem Rd.of_own {w : World} {base n : Nat} {e : TypeId} {v : Value} {xs : List Value} (h : w.ownsRow base e 1 v n xs) :
    ∃ A cap, v = .slice A xs.length cap ∧ xs.length = n ∧ Rd w A xs ∧ (v = .slice none 0 0 ∨ ∃ g, A = some ⟨g, 0, none⟩ ∧ base ≤ g) := by
  obtain ⟨hl, hv⟩ := h
  have hv' := hv
  rcases hv with ⟨rfl, rfl⟩ | ⟨g, cap, cur, rfl, hb, hg, _, _, _, hx⟩
  · have : xs = [] := List.eq_nil_of_length_eq_zero (by omega)
    subst this
    exact ⟨none, 0, rfl, rfl, .inl rfl, .inl rfl⟩
  · refine ⟨some ⟨g, 0, none⟩, cap, by simp [hl], by omega, .inr ⟨g, 0, rfl, (Array.getElem?_eq_some_iff.1 hg).1, fun i u hu => ?_⟩, .inr ⟨g, rfl, hb⟩⟩
    have := World.ownsRow.cells (base := base) (v := .slice (some ⟨g, 0, none⟩) n cap) (show w.ownsRow base e 1 _ n xs from ⟨hl, hv'⟩) (g := g) rfl i u hu
    have e : (⟨g, 0, none⟩ : Addr).add i = ⟨g, i, none⟩ := by unfold Addr.add; by_cases hi : i = 0 <;> simp [hi]
    rw [e] at this; simpa using this

/-- Below block number B the world w' is as w was (of the tape nothing is said). -/
structure Bel (B : Nat) (w w' : World) : Prop where
  os : w'.os = w.os
  output : w'.output = w.output
  size : w.heap.size ≤ w'.heap.size
  block : ∀ k, k < B → w'.heap[k]? = w.heap[k]?
theorem Bel.of {B : Nat} {w w' : World} (h : Below B w w') : Bel B w w' := ⟨h.os, h.output, h.size, h.block⟩
theorem Bel.refl (B : Nat) (w : World) : Bel B w w := .of (Below.refl B w)
theorem Bel.trans {B : Nat} {a b c : World} (h : Bel B a b) (k : Bel B b c) : Bel B a c :=
  ⟨k.os.trans h.os, k.output.trans h.output, Nat.le_trans h.size k.size, fun i hi => (k.block i hi).trans (h.block i hi)⟩
theorem Bel.mono {B B' : Nat} {w w' : World} (h : Bel B w w') (hB : B' ≤ B) : Bel B' w w' := ⟨h.os, h.output, h.size, fun k hk => h.block k (Nat.lt_of_lt_of_le hk hB)⟩
theorem Bel.and {B : Nat} {a b c : World} (h : Bel B a b) (k : Below b.heap.size b c) (hB : B ≤ b.heap.size) : Bel B a c := h.trans (Bel.of (k.mono hB))
theorem Bel.next {a b c : World} (h : Bel a.heap.size a b) (k : Bel b.heap.size b c) : Bel a.heap.size a c := h.trans (k.mono h.size)
theorem Bel.drew {B : Nat} {a w : World} (h : Bel B a w) : Bel B a w.drew := ⟨h.os, h.output, h.size, h.block⟩
theorem Bel.drewN {B : Nat} {a w : World} (h : Bel B a w) (n : Nat) : Bel B a (w.drewN n) := ⟨h.os, h.output, h.size, h.block⟩
theorem Bel.alloc {B : Nat} {a w : World} (h : Bel B a w) (hB : B ≤ w.heap.size) (o : Obj) : Bel B a (w.alloc o) := h.trans (.of ((Below.refl B w).alloc hB o))
theorem Bel.setCell {B : Nat} {a w : World} (h : Bel B a w) {p : Addr} (hp : B ≤ p.block) (u : Value) : Bel B a (w.setCell p u) := h.trans (.of ((Below.refl B w).setCell hp u))
theorem Bel.grown {B : Nat} {a w w' : World} {row : Option Nat} (h : Bel B a w) (hg : w.grownBy w' row) (hB : B ≤ w.heap.size) (hr : ∀ k, row = some k → B ≤ k) : Bel B a w' := h.trans (.of ((Below.refl B w).grown hg hB hr))
theorem Bel.cell {B : Nat} {w w' : World} (h : Bel B w w') {p : Addr} (hp : p.block < B) : w'.cell? p = w.cell? p := World.cell?_of_block (h.block _ hp)
theorem Bel.frozen {B : Nat} {w w' : World} (h : Bel B w w') {p : Addr} (hp : p.block < B) : w'.frozen? p = w.frozen? p := World.frozen?_of_block (h.block _ hp)
theorem Rd.bel {w w' : World} {A : Option Addr} {xs : List Value} {B : Nat} (h : Rd w A xs) (hb : Bel B w w') (hB : w.heap.size ≤ B) : Rd w' A xs := by
  rcases h with h | ⟨b, off, e, hlt, hc⟩
  · exact .inl h
  · exact .inr ⟨b, off, e, by have := hb.size; omega, fun i u hu => (hb.cell (p := ⟨b, off + i, none⟩) (by show b < B; omega)).trans (hc i u hu)⟩

theorem str_t {a b : ByteArray} (h : a = b) : (a.toList == b.toList) = true := by subst h; simp
theorem str_f {a b : ByteArray} (h : ¬ a = b) : (a.toList == b.toList) = false := by
  rw [beq_eq_false_iff_ne]; intro e; apply h
  rw [ByteArray.toList_eq, ByteArray.toList_eq] at e
  exact ByteArray.ext (Array.toList_inj.1 e)
theorem below_drewN (B : Nat) (w : World) (n : Nat) : Below B w (w.drewN n) := ⟨rfl, rfl, rfl, Nat.le_refl _, fun _ _ => rfl⟩



theorem block_of_add (a : Addr) (n : Nat) : (a.add n).block = a.block := by unfold Addr.add; split <;> rfl
theorem add_of_add (a : Addr) (i j : Nat) : (a.add i).add j = a.add (i + j) := by
  unfold Addr.add
  by_cases hi : i = 0 <;> by_cases hj : j = 0 <;> simp [hi, hj, Nat.add_assoc]

def Reads (w : World) (B size : Nat) (A : Option Addr) (n : Nat) (xs : List Value) : Prop :=
  xs.length = n * size ∧ (0 < n → ∃ ad, A = some ad ∧ ad.block < B ∧ ∀ j u, xs[j]? = some u → w.cell? (ad.add j) = some u)

section
variable {w w' : World} {B B' size n : Nat} {A : Option Addr} {xs : List Value}
theorem Reads.none_ : Reads w B size A 0 [] := ⟨by simp, fun h => absurd h (by omega)⟩
theorem Reads.at_ {k : Nat} (h : Reads w B 1 A n xs) (hk : k < n) : ∃ ad u, A = some ad ∧ ad.block < B ∧ xs[k]? = some u ∧ w.cell? (ad.add k) = some u := by
  obtain ⟨ad, e, hb, hc⟩ := h.2 (by omega)
  have hl : k < xs.length := by have := h.1; omega
  exact ⟨ad, xs[k], e, hb, List.getElem?_eq_getElem hl, hc k _ (List.getElem?_eq_getElem hl)⟩
theorem Reads.keep (h : Reads w B size A n xs) (hk : ∀ p : Addr, p.block < B → w'.cell? p = w.cell? p) : Reads w' B size A n xs :=
  ⟨h.1, fun hn => by
    obtain ⟨ad, e, hb, hc⟩ := h.2 hn
    exact ⟨ad, e, hb, fun j u hu => (hk _ (by rw [block_of_add]; exact hb)).trans (hc j u hu)⟩⟩
theorem Reads.more (h : Reads w B size A n xs) (hB : B ≤ B') : Reads w B' size A n xs :=
  ⟨h.1, fun hn => by
    obtain ⟨ad, e, hb, hc⟩ := h.2 hn
    exact ⟨ad, e, by omega, hc⟩⟩
theorem Reads.below (h : Reads w B size A n xs) (hb : Below B w w') : Reads w' B size A n xs := h.keep fun _ hp => hb.cell hp
theorem Reads.drew (h : Reads w B size A n xs) : Reads w.drew B size A n xs := h
theorem Reads.drewN (h : Reads w B size A n xs) (k : Nat) : Reads (w.drewN k) B size A n xs := h
theorem Reads.alloc (h : Reads w B size A n xs) (hB : B ≤ w.heap.size) (o : Obj) : Reads (w.alloc o) B size A n xs := h.keep fun p hp => World.cell?_alloc_lt w o p (by omega)
theorem Reads.setCell (h : Reads w B size A n xs) {p : Addr} (hB : B ≤ p.block) (u : Value) : Reads (w.setCell p u) B size A n xs :=
  h.keep fun q hq => World.cell?_setCell_other w p q u (fun e => by subst e; omega)
theorem Reads.grown (h : Reads w B size A n xs) {row : Option Nat} (hg : w.grownBy w' row) (hB : B ≤ w.heap.size) (hr : ∀ g, row = some g → B ≤ g) : Reads w' B size A n xs :=
  h.keep fun p hp => World.cell?_of_block (hg.block p.block (by omega) (fun e => by have := hr _ e.symm; omega))
theorem Reads.cut (h : Reads w B size A n xs) {k cap : Nat} (hk : k ≤ n) (hc : n ≤ cap) :
    Reads w B size (if cap = k then A else A.map (·.add (k * size))) (n - k) (xs.drop (k * size)) := by
  refine ⟨by rw [List.length_drop, h.1, Nat.sub_mul], fun hn => ?_⟩
  obtain ⟨ad, rfl, hb, hcell⟩ := h.2 (by omega)
  rw [if_neg (by omega)]
  refine ⟨ad.add (k * size), rfl, by rw [block_of_add]; exact hb, fun j u hu => ?_⟩
  rw [add_of_add]
  exact hcell _ u (by rw [← hu, List.getElem?_drop])
theorem Reads.of_own {base : Nat} {e : TypeId} {c : Nat} (h : w.ownsRow base e size (.slice A n c) n xs) : Reads w w.heap.size size A n xs := by
  refine ⟨h.1, fun hn => ?_⟩
  obtain ⟨g, cap, hv, _, hlt⟩ := h.form hn
  have hA : A = some ⟨g, 0, none⟩ := by injection hv
  subst hA
  exact ⟨_, rfl, hlt, h.cells (g := g) rfl⟩
end

section
variable {P : Program} (w : World)

theorem run_append_of_nil (base : Nat) (t ty e : TypeId) (i : TypeInfo) (size : Nat) (ht : P.underlying t = some (.slice e)) (hi : P.info? e = some i)
    (v : Value) (n : Nat) (xs : List Value) (hown : w.ownsRow base e size v n xs) (c : Nat) : (Builtin.append_ #[t, t] ty #[v, .slice none 0 c]).run P w = .ok v w := by
  rcases hown.2 with ⟨rfl, rfl⟩ | ⟨g, cap, cur, rfl, _, _, hnc, _⟩
  · simp [Builtin.append_, run_underlying ht, sizeOf, typeInfo, hi, Builtin.lenOf, Builtin.firstCells]
  · simp [Builtin.append_, run_underlying ht, sizeOf, typeInfo, hi, Builtin.lenOf, Builtin.firstCells, hnc, storeCells]

theorem run_append_any (base : Nat) (t ty e : TypeId) (i : TypeInfo) (z : Value) (size bytes : Nat) (ht : P.underlying t = some (.slice e)) (hi : P.info? e = some i) (hz : i.zero = some z)
    (hsize : i.size = size) (hby : i.bytes = bytes) (hzs : z.cells.size = size) (hsz : 0 < size)
    (v : Value) (n : Nat) (xs : List Value) (hown : w.ownsRow base e size v n xs)
    (B : Nat) (A : Option Addr) (m c : Nat) (news : List Value) (hr : Reads w B size A m news) (h1 : ∀ u ∈ news, u.oneCell' = true)
    (h63 : n + m ≤ maxLen) (hbytes : (n + m) * bytes ≤ 140737488355328) (hbase : base ≤ w.heap.size) :
    ∃ v' w', (Builtin.append_ #[t, t] ty #[v, .slice A m c]).run P w = .ok v' w' ∧ w'.ownsRow base e size v' (n + m) (xs ++ news) ∧ w.grownBy w' v.ownBlock ∧
      (v'.ownBlock = v.ownBlock ∨ v'.ownBlock = some w.heap.size) := by
  rcases A with _ | ad
  · have hm : m = 0 := by
      rcases Nat.eq_zero_or_pos m with h0 | h0
      · exact h0
      · obtain ⟨ad, h, _⟩ := hr.2 h0
        cases h
    subst hm
    have hn : news = [] := List.eq_nil_of_length_eq_zero (by simpa using hr.1)
    subst hn
    exact ⟨v, w, run_append_of_nil w base t ty e i size ht hi v n xs hown c, by simpa using hown, World.grownBy.refl w _, .inl rfl⟩
  · have hcells : ∀ j u, news[j]? = some u → w.cell? (ad.add j) = some u := by
      intro j u hu
      rcases Nat.eq_zero_or_pos m with h0 | h0
      · subst h0
        have hn : news = [] := List.eq_nil_of_length_eq_zero (by simpa using hr.1)
        subst hn
        simp at hu
      · obtain ⟨ad', h, _, hc⟩ := hr.2 h0
        injection h with h
        subst h
        exact hc j u hu
    obtain ⟨v', w', hrun, h2, h3, _, h5⟩ := run_append_own_at (P := P) w base t ty e i z size bytes ht hi hz hsize hby hzs hsz v n xs hown ad m c news hr.1 hcells h1 h63 hbytes hbase
    exact ⟨v', w', hrun, h2, h3, h5⟩

theorem wp_append_any {o : Oper} {a : Act} {K : Act → World → Prop} {Q : Exit → Act → World → Prop} (s x : Operand) (t : TypeId)
    (ho : o.op = .call { callee := .builtin .append, args := #[s, x], argTypes := #[t, t] })
    (base : Nat) (e : TypeId) (i : TypeInfo) (z : Value) (size bytes : Nat) (ht : P.underlying t = some (.slice e)) (hi : P.info? e = some i) (hz : i.zero = some z)
    (hsize : i.size = size) (hby : i.bytes = bytes) (hzs : z.cells.size = size) (hsz : 0 < size)
    (v : Value) (n : Nat) (xs : List Value) (hs : a.eval s = v) (hown : w.ownsRow base e size v n xs)
    (B : Nat) (A : Option Addr) (m c : Nat) (news : List Value) (hx : a.eval x = .slice A m c) (hr : Reads w B size A m news) (h1 : ∀ u ∈ news, u.oneCell' = true)
    (h63 : n + m ≤ maxLen) (hbytes : (n + m) * bytes ≤ 140737488355328) (hbase : base ≤ w.heap.size)
    (h : ∀ v' w', w'.ownsRow base e size v' (n + m) (xs ++ news) → w.grownBy w' v.ownBlock → (v'.ownBlock = v.ownBlock ∨ v'.ownBlock = some w.heap.size) → K (a.put o.dst v') w') : o.wp P a w K Q := by
  obtain ⟨v', w', hrun, h2, h3, h4⟩ := run_append_any (P := P) w base t o.type e i z size bytes ht hi hz hsize hby hzs hsz v n xs hown B A m c news hr h1 h63 hbytes hbase
  unfold Oper.wp execOp
  simp only [ho, resolve, invoke, builtin, Sem.run_bind, Sem.run_pure, Result.andThen_ok, List.map_toArray, List.map_cons, List.map_nil, hs, hx, hrun]
  exact h v' w' h2 h3 h4

theorem wpList_append_any {ops : Array Oper} {rest : List Oper} {o : Oper} {a : Act} {Q : Exit → Act → World → Prop} (hgd : o.guard = none) (s x : Operand) (t : TypeId)
    (ho : o.op = .call { callee := .builtin .append, args := #[s, x], argTypes := #[t, t] })
    (base : Nat) (e : TypeId) (i : TypeInfo) (z : Value) (size bytes : Nat) (ht : P.underlying t = some (.slice e)) (hi : P.info? e = some i) (hz : i.zero = some z)
    (hsize : i.size = size) (hby : i.bytes = bytes) (hzs : z.cells.size = size) (hsz : 0 < size)
    (v : Value) (n : Nat) (xs : List Value) (hs : a.eval s = v) (hown : w.ownsRow base e size v n xs)
    (B : Nat) (A : Option Addr) (m c : Nat) (news : List Value) (hx : a.eval x = .slice A m c) (hr : Reads w B size A m news) (h1 : ∀ u ∈ news, u.oneCell' = true)
    (h63 : n + m ≤ maxLen) (hbytes : (n + m) * bytes ≤ 140737488355328) (hbase : base ≤ w.heap.size)
    (h : ∀ v' w', w'.ownsRow base e size v' (n + m) (xs ++ news) → w.grownBy w' v.ownBlock → (v'.ownBlock = v.ownBlock ∨ v'.ownBlock = some w.heap.size) → wpList P ops Q rest (a.put o.dst v') w') : wpList P ops Q (o :: rest) a w :=
  wpList_plain hgd fun _ hK => wp_append_any w s x t ho base e i z size bytes ht hi hz hsize hby hzs hsz v n xs hs hown B A m c news hx hr h1 h63 hbytes hbase fun v' w' h2 h3 h4 => hK _ _ (h v' w' h2 h3 h4)

theorem step_append_any {ops : Array Oper} {o : Oper} {a : Act} {K : Act → World → Prop} {Q : Exit → Act → World → Prop} {E : Prop} (hgd : o.guard = none) (s x : Operand) (t : TypeId)
    (ho : o.op = .call { callee := .builtin .append, args := #[s, x], argTypes := #[t, t] })
    (base : Nat) (e : TypeId) (i : TypeInfo) (z : Value) (size bytes : Nat) (ht : P.underlying t = some (.slice e)) (hi : P.info? e = some i) (hz : i.zero = some z)
    (hsize : i.size = size) (hby : i.bytes = bytes) (hzs : z.cells.size = size) (hsz : 0 < size)
    (v : Value) (n : Nat) (xs : List Value) (hs : a.eval s = v) (hown : w.ownsRow base e size v n xs)
    (B : Nat) (A : Option Addr) (m c : Nat) (news : List Value) (hx : a.eval x = .slice A m c) (hr : Reads w B size A m news) (h1 : ∀ u ∈ news, u.oneCell' = true)
    (h63 : n + m ≤ maxLen) (hbytes : (n + m) * bytes ≤ 140737488355328) (hbase : base ≤ w.heap.size)
    (h : ∀ v' w', w'.ownsRow base e size v' (n + m) (xs ++ news) → w.grownBy w' v.ownBlock → (v'.ownBlock = v.ownBlock ∨ v'.ownBlock = some w.heap.size) → K (a.put o.dst v') w') :
    if Region.wanted o (yielded ops a.tmps) = true then Oper.wp P o a w K Q else E := by
  have hw : Region.wanted o (yielded ops a.tmps) = true := by simp [Region.wanted, hgd]
  rw [if_pos hw]
  exact wp_append_any w s x t ho base e i z size bytes ht hi hz hsize hby hzs hsz v n xs hs hown B A m c news hx hr h1 h63 hbytes hbase h
end

theorem Reads.of_rd {w : World} {A : Option Addr} {xs : List Value} (h : Rd w A xs) : Reads w w.heap.size 1 A xs.length xs := by
  refine ⟨by simp, fun hn => ?_⟩
  obtain ⟨b, off, rfl, hb, hc⟩ := h.pos hn
  refine ⟨_, rfl, hb, fun j u hu => ?_⟩
  have e : (⟨b, off, none⟩ : Addr).add j = ⟨b, off + j, none⟩ := by unfold Addr.add; by_cases hi : j = 0 <;> simp [hi]
  rw [e]; exact hc j u hu

theorem ownsRow_bel {w w1 : World} {B base : Nat} {e : TypeId} {size n : Nat} {v : Value} {xs : List Value} (h : w.ownsRow base e size v n xs) (hb : Bel B w w1) (hB : w.heap.size ≤ B) : w1.ownsRow base e size v n xs := by
  refine ⟨h.1, ?_⟩
  rcases h.2 with h | ⟨g, cap, cur, h1, h2, h3, h4⟩
  · exact .inl h
  · refine .inr ⟨g, cap, cur, h1, h2, (hb.block g ?_).trans h3, h4⟩
    have := (Array.getElem?_eq_some_iff.1 h3).1
    omega
/-- A slice that reads as a list, and lies not in the block of v. -/
def RdX (w : World) (A : Option Addr) (xs : List Value) (v : Value) : Prop :=
  xs = [] ∨ ∃ b off, A = some ⟨b, off, none⟩ ∧ b < w.heap.size ∧ v.ownBlock ≠ some b ∧ ∀ i u, xs[i]? = some u → w.cell? ⟨b, off + i, none⟩ = some u
theorem RdX.pos {w : World} {A : Option Addr} {xs : List Value} {v : Value} (h : RdX w A xs v) (hp : 0 < xs.length) : ∃ b off, A = some ⟨b, off, none⟩ ∧ b < w.heap.size ∧ ∀ i u, xs[i]? = some u → w.cell? ⟨b, off + i, none⟩ = some u := by
  obtain ⟨b, off, h1, h2, _, h4⟩ := h.resolve_left (by rintro rfl; simp at hp)
  exact ⟨b, off, h1, h2, h4⟩
theorem RdX.grown {w w' : World} {A : Option Addr} {xs : List Value} {v v' : Value} (h : RdX w A xs v) (o : Obj) (hg : (w.alloc o).grownBy w' v.ownBlock) (hv : v'.ownBlock = v.ownBlock ∨ v'.ownBlock = some (w.alloc o).heap.size) : RdX w' A xs v' := by
  rcases h with h | ⟨b, off, h1, h2, h3, h4⟩
  · exact .inl h
  · have hs := hg.size
    simp at hs
    refine .inr ⟨b, off, h1, by omega, ?_, fun i u hu => ?_⟩
    · rcases hv with hv | hv
      · rw [hv]; exact h3
      · rw [hv]; simp; omega
    · rw [World.cell?_of_block (a := ⟨b, off + i, none⟩) (hg.block b (by simp; omega) (fun e => h3 e.symm)), World.cell?_alloc_lt w o _ (by show b < _; omega)]
      exact h4 i u hu
theorem RdX.of_own {w : World} {base n : Nat} {e : TypeId} {A : Option Addr} {c : Nat} {xs : List Value} (h : w.ownsRow base e 1 (.slice A n c) n xs) {v : Value} (hv : ∀ k, v.ownBlock = some k → k < base) : RdX w A xs v := by
  obtain ⟨A', cap, hs, hl, hr, ho⟩ := Rd.of_own h
  cases hs
  rcases hr with hr | ⟨b, off, h1, h2, h3⟩
  · exact .inl hr
  · rcases ho with ho | ⟨g, hg, hb⟩
    · injection ho with ho; rw [ho] at h1; cases h1
    · rw [h1] at hg; cases hg
      exact .inr ⟨b, 0, h1, h2, fun e => by have := hv _ e; omega, h3⟩
theorem grown_bel {w w' : World} {row : Option Nat} {B : Nat} (h : w.grownBy w' row) (hB : B ≤ w.heap.size) (hr : ∀ k, row = some k → B ≤ k) : Bel B w w' := (Bel.refl B w).grown h hB hr


theorem belcell {W w1 : World} (hb : Bel W.heap.size W w1) : (∀ b o, b < W.heap.size → w1.cell? ⟨b, o, none⟩ = W.cell? ⟨b, o, none⟩) ∧ (∀ b o, b < W.heap.size → w1.frozen? ⟨b, o, none⟩ = W.frozen? ⟨b, o, none⟩) :=
  ⟨fun b o h => hb.cell (p := ⟨b, o, none⟩) h, fun b o h => hb.frozen (p := ⟨b, o, none⟩) h⟩
theorem len_toList (s : ByteArray) : s.data.toList.length = s.size := by simp
theorem extract_list (s : ByteArray) (k : Nat) : s.extract k s.size = ⟨(s.data.toList.drop k).toArray⟩ := by
  apply ByteArray.ext
  apply Array.toList_inj.1
  simp [ByteArray.data_extract, List.extract_eq_take_drop]
  rw [List.take_of_length_le (by simp)]
theorem ext_drop (s : ByteArray) (k : Nat) : (s.extract k s.size).data.toList = s.data.toList.drop k := by rw [extract_list]
theorem ext_take (s : ByteArray) (n : Nat) : (s.extract 0 n).data.toList = s.data.toList.take n := by
  simp [ByteArray.data_extract, List.extract_eq_take_drop]

/-- A block that is known whole. -/
def Blk (w : World) (g : Nat) (t : TypeId) (cs : Array Value) : Prop := w.heap[g]? = some (.cells cs t (0, 0))
section
variable {w w' : World} {g : Nat} {t : TypeId} {cs : Array Value}
theorem Blk.lt (h : Blk w g t cs) : g < w.heap.size := by
  rcases Nat.lt_or_ge g w.heap.size with hlt | hge
  · exact hlt
  · unfold Blk at h; rw [Array.getElem?_eq_none hge] at h; cases h
theorem Blk.cell (h : Blk w g t cs) (i : Nat) : w.cell? ⟨g, i, none⟩ = cs[i]? := cell_of_row w g i cs t (0, 0) h
theorem Blk.frozen (h : Blk w g t cs) (i : Nat) : w.frozen? ⟨g, i, none⟩ = false := by
  unfold Blk at h
  simp [World.frozen?, h]
theorem Blk.new (w : World) (t : TypeId) (cs : Array Value) : Blk (w.alloc (.cells cs t)) w.heap.size t cs := heap_alloc_new w _
theorem Blk.alloc (h : Blk w g t cs) (o : Obj) : Blk (w.alloc o) g t cs := (Below.heap_alloc w o g h.lt).trans h
theorem Blk.set_ (h : Blk w g t cs) (i : Nat) (u : Value) : Blk (w.setCell ⟨g, i, none⟩ u) g t (cs.setIfInBounds i u) := by
  unfold Blk at h ⊢
  simp [World.setCell, Array.getElem?_modify, h]
theorem Blk.far (h : Blk w g t cs) {p : Addr} (hp : g ≠ p.block) (u : Value) : Blk (w.setCell p u) g t cs := (Below.heap_setCell w p u g hp).trans h
theorem Blk.bel {B : Nat} (h : Blk w g t cs) (hb : Bel B w w') (hg : g < B) : Blk w' g t cs := (hb.block g hg).trans h
end

/- Bytes: heads, digits; plain. -/

def hd (l : List UInt8) (c : UInt8) : Bool := match l with | x :: _ => x == c | [] => false
def isDig (c : UInt8) : Bool := decide (48 ≤ c.toNat) && decide (c.toNat ≤ 57)
def digN : List UInt8 → Nat
  | [] => 0
  | c :: r => if isDig c then digN r + 1 else 0
def dr (s : ByteArray) (a : Nat) : List UInt8 := s.data.toList.drop a
theorem dr_dr (s : ByteArray) (a k : Nat) : (dr s a).drop k = dr s (a + k) := by unfold dr; rw [List.drop_drop]
theorem hd_t {s : ByteArray} {p : Nat} {c : UInt8} (h : p < s.size) (e : (s[p].toNat : Int) = (c.toNat : Int)) : hd (dr s p) c = true := by
  rw [dr, drop_cons s p h, hd, beq_iff_eq, ← UInt8.toNat_inj]; omega
theorem hd_f {s : ByteArray} {p : Nat} {c : UInt8} (h : ∀ h : p < s.size, (s[p].toNat : Int) ≠ (c.toNat : Int)) : hd (dr s p) c = false := by
  by_cases hp : p < s.size
  · rw [dr, drop_cons s p hp, hd, beq_eq_false_iff_ne]; intro e; exact h hp (by rw [e])
  · rw [dr, drop_nil s p (by omega)]; rfl
theorem hd_lt {s : ByteArray} {p : Nat} {c : UInt8} (h : hd (dr s p) c = true) : p < s.size := by
  rcases Nat.lt_or_ge p s.size with h' | h'
  · exact h'
  · rw [dr, drop_nil s p h'] at h; cases h
theorem digN_le (l : List UInt8) : digN l ≤ l.length := by
  induction l with
  | nil => simp [digN]
  | cons c r ih => rw [digN]; split <;> simp <;> omega
theorem digN_bd (s : ByteArray) (a : Nat) (h : a ≤ s.size) : a + digN (dr s a) ≤ s.size := by
  have := digN_le (dr s a)
  rw [dr, List.length_drop, show s.data.toList.length = s.size by simp] at this
  unfold dr; omega

theorem hd_i {s : ByteArray} {p : Nat} {c : UInt8} (h : p < s.size) : hd (dr s p) c = ((s[p].toNat : Int) == (c.toNat : Int)) := by
  rw [dr, drop_cons s p h, hd, Bool.eq_iff_iff, beq_iff_eq, beq_iff_eq, ← UInt8.toNat_inj]; omega
theorem hd_o {s : ByteArray} {p : Nat} {c : UInt8} (h : s.size ≤ p) : hd (dr s p) c = false := by rw [dr, drop_nil s p h]; rfl
theorem hd_i' {s : ByteArray} {p : Nat} {c : UInt8} {n : Int} (h : p < s.size) (e : (c.toNat : Int) = n) : ((s[p].toNat : Int) == n) = hd (dr s p) c := by rw [hd_i h, e]
theorem hd_or_t {s : ByteArray} {p : Nat} {c d : UInt8} {n : Int} (h : p < s.size) (hn : (c.toNat : Int) = n) (e : ((s[p].toNat : Int) == n) = true) : true = (hd (dr s p) c || hd (dr s p) d) := by rw [← hd_i' h hn, e]; rfl
theorem hd_or_f {s : ByteArray} {p : Nat} {c d : UInt8} {n m : Int} (h : p < s.size) (hn : (c.toNat : Int) = n) (hm : (d.toNat : Int) = m) (e : ((s[p].toNat : Int) == n) = false) : ((s[p].toNat : Int) == m) = (hd (dr s p) c || hd (dr s p) d) := by rw [← hd_i' h hn, e, ← hd_i' h hm]; rfl
theorem hd_or_b {s : ByteArray} {p : Nat} {c d : UInt8} {n m : Int} (h : p < s.size) (hn : (c.toNat : Int) = n) (hm : (d.toNat : Int) = m) : ((s[p].toNat : Int) == n || (s[p].toNat : Int) == m) = (hd (dr s p) c || hd (dr s p) d) := by rw [← hd_i' h hn, ← hd_i' h hm]
theorem hd_or_o {s : ByteArray} {p : Nat} {c d : UInt8} (h : s.size ≤ p) : false = (hd (dr s p) c || hd (dr s p) d) := by rw [hd_o h, hd_o h]; rfl
theorem hd_lt2 {s : ByteArray} {p : Nat} {c d : UInt8} (h : (hd (dr s p) c || hd (dr s p) d) = true) : p < s.size := by
  rcases Bool.or_eq_true_iff.1 h with h | h <;> exact hd_lt h
theorem dig_hd {s : ByteArray} {p : Nat} (h : digN (dr s p) ≠ 0) : p < s.size := by
  rcases Nat.lt_or_ge p s.size with h' | h'
  · exact h'
  · exfalso; apply h; rw [dr, drop_nil s p h']; rfl

theorem hd_n' {s : ByteArray} {p : Nat} {c : UInt8} {n : Int} (h : p < s.size) (e : (c.toNat : Int) = n) : ((s[p].toNat : Int) != n) = !hd (dr s p) c := by rw [← hd_i' h e]; rfl
theorem hd_nb' {s : ByteArray} {p : Nat} {c : UInt8} {n : Int} (h : p < s.size) (e : (c.toNat : Int) = n) : (decide (s.size ≤ p) || ((s[p].toNat : Int) != n)) = !hd (dr s p) c := by rw [hd_n' h e, decide_eq_false (by omega)]; rfl
theorem hd_no {s : ByteArray} {p : Nat} {c : UInt8} (h : s.size ≤ p) : true = !hd (dr s p) c := by rw [hd_o h]; rfl

theorem dig_int (c : UInt8) : isDig c = true ↔ (48 ≤ (c.toNat : Int) ∧ (c.toNat : Int) ≤ 57) := by
  simp [isDig]; omega


theorem te_t {t : ByteArray} (h : t.size = 0) : t.toList.isEmpty = true := by
  rw [ByteArray.toList_eq]
  have : t.data.toList.length = 0 := by simpa using h
  rw [List.isEmpty_iff]; exact List.eq_nil_of_length_eq_zero this
theorem te_f {t : ByteArray} (h : 0 < t.size) : t.toList.isEmpty = false := by
  rw [ByteArray.toList_eq]
  have : 0 < t.data.toList.length := by simpa using h
  cases hl : t.data.toList with
  | nil => rw [hl] at this; simp at this
  | cons => rfl
theorem ne_nil {t : ByteArray} (h : 0 < t.size) : t.data.toList ≠ [] := by
  intro e; have := len_toList t; rw [e] at this; simp at this; omega
def bs (l : List UInt8) : ByteArray := ⟨l.toArray⟩
theorem bs_of {t : ByteArray} {l : List UInt8} (h : t.data.toList = l) : t = bs l := by
  subst h; apply ByteArray.ext; apply Array.toList_inj.1; simp [bs]
theorem bs_list (l : List UInt8) : (bs l).data.toList = l := by simp [bs]

/- Slices of structs as flat rows; no word of a dump. -/

theorem flat_len {α : Type} (f : α → List Value) (k : Nat) (hk : ∀ x, (f x).length = k) : ∀ l : List α, (l.flatMap f).length = l.length * k
  | [] => by simp
  | x :: l => by rw [List.flatMap_cons, List.length_append, hk, flat_len f k hk l, List.length_cons, Nat.add_mul]; omega
theorem flat_get {α : Type} (f : α → List Value) (k : Nat) (hk : ∀ x, (f x).length = k) : ∀ (l : List α) (i j : Nat), j < k → (l.flatMap f)[i * k + j]? = (l[i]?).bind (fun x => (f x)[j]?)
  | [], i, j, _ => by simp
  | x :: l, 0, j, hj => by
    rw [List.flatMap_cons, List.getElem?_append_left (by rw [hk]; omega)]; simp
  | x :: l, i + 1, j, hj => by
    rw [List.flatMap_cons, List.getElem?_append_right (by rw [hk, Nat.add_mul]; omega), hk, show (i + 1) * k + j - k = i * k + j by rw [Nat.add_mul]; omega, flat_get f k hk l i j hj]
    simp
theorem add_lit (b off n : Nat) : (⟨b, off, none⟩ : Addr).add n = ⟨b, off + n, none⟩ := by
  unfold Addr.add; by_cases h : n = 0 <;> simp [h]
/-- From cells of elements to a flat reading. -/
theorem reads_flat {α : Type} (f : α → List Value) (k : Nat) (hk : ∀ x, (f x).length = k) (hk0 : 0 < k) (w : World) (A : Option Addr) (l : List α)
    (h : l = [] ∨ ∃ b off, A = some ⟨b, off, none⟩ ∧ b < w.heap.size ∧ ∀ (i : Nat) (x : α), l[i]? = some x → ∀ j u, (f x)[j]? = some u → w.cell? ⟨b, off + i * k + j, none⟩ = some u) :
    Reads w w.heap.size k A l.length (l.flatMap f) := by
  refine ⟨flat_len f k hk l, fun hn => ?_⟩
  obtain ⟨b, off, rfl, hb, hc⟩ := h.resolve_left (by intro e; rw [e] at hn; simp at hn)
  refine ⟨_, rfl, hb, fun j u hu => ?_⟩
  have hj : j % k < k := Nat.mod_lt _ hk0
  have hd : j / k * k + j % k = j := Nat.div_add_mod' j k
  rw [← hd, flat_get f k hk l (j / k) (j % k) hj] at hu
  obtain ⟨x, hx, hu2⟩ := Option.bind_eq_some_iff.1 hu
  rw [add_lit, ← hd, ← Nat.add_assoc]
  exact hc (j / k) x hx (j % k) u hu2
/-- From an owned row to cells of elements. -/
theorem own_flat {α : Type} (f : α → List Value) (k : Nat) (hk : ∀ x, (f x).length = k) (w : World) (base n : Nat) (e : TypeId) (v : Value) (l : List α) (h : w.ownsRow base e k v n (l.flatMap f)) (hn : n = l.length) :
    ∃ A cap, v = .slice A l.length cap ∧ l.length ≤ cap ∧ (l = [] ∨ ∃ b off, A = some ⟨b, off, none⟩ ∧ base ≤ b ∧ b < w.heap.size ∧ ∀ (i : Nat) (x : α), l[i]? = some x → ∀ j u, j < k → (f x)[j]? = some u → w.cell? ⟨b, off + i * k + j, none⟩ = some u) := by
  subst hn
  have h2 := h.2
  rcases h2 with ⟨rfl, h0⟩ | ⟨g, cap, cur, rfl, hbs, hg, hle, _⟩
  · exact ⟨none, 0, by rw [h0], by omega, .inl (List.eq_nil_of_length_eq_zero h0)⟩
  · refine ⟨some ⟨g, 0, none⟩, cap, rfl, hle, .inr ⟨g, 0, rfl, hbs, (Array.getElem?_eq_some_iff.1 hg).1, fun i x hx j u hj hu => ?_⟩⟩
    have := h.cells (g := g) rfl (i * k + j) u (by rw [flat_get f k hk l i j hj, hx]; exact hu)
    rw [add_lit] at this
    rw [show 0 + i * k + j = 0 + (i * k + j) by omega]; exact this

/-- A row just laid. -/
theorem reads_new (w : World) (e : TypeId) (k m : Nat) (xs : List Value) (h : xs.length = m * k) : Reads (w.alloc (.cells xs.toArray e)) (w.heap.size + 1) k (some ⟨w.heap.size, 0, none⟩) m xs :=
  ⟨h, fun _ => ⟨_, rfl, by show w.heap.size < _; omega, fun j u hu => by
    rw [add_lit, (Blk.new w e xs.toArray).cell]; simpa using hu⟩⟩

/- UTF-8: the machine of states is the ranges of bytes; plain (for the seats of laceworklaw16 on; no word of a dump in it). -/

def ufirst (b : Int) : Int :=
  if b < 128 then 0 else if 194 ≤ b ∧ b ≤ 223 then 1 else if b = 224 then 4 else if b = 237 then 5 else if 225 ≤ b ∧ b ≤ 239 then 2
  else if b = 240 then 6 else if 241 ≤ b ∧ b ≤ 243 then 3 else if b = 244 then 7 else 8
def ustep (st b : Int) : Int :=
  if st = 0 then ufirst b
  else if st = 4 then (if 160 ≤ b ∧ b ≤ 191 then 1 else 8)
  else if st = 5 then (if 128 ≤ b ∧ b ≤ 159 then 1 else 8)
  else if st = 6 then (if 144 ≤ b ∧ b ≤ 191 then 2 else 8)
  else if st = 7 then (if 128 ≤ b ∧ b ≤ 143 then 2 else 8)
  else if 1 ≤ st ∧ st ≤ 3 then (if 128 ≤ b ∧ b ≤ 191 then st - 1 else 8)
  else 8
def ulead (b : Int) : Int := if 240 ≤ b then 3 else if 224 ≤ b then 2 else 1
/-- What a byte adds. -/
def uadd (i : Nat) (c b : Int) : Int :=
  if 0 < i then c * 64 + b % 64 else if b < 128 then b else if 240 ≤ b then b % 8 else if 224 ≤ b then b % 16 else b % 32
/-- The scalar with which bytes begin, by the machine. -/
def uscF : List UInt8 → Nat → Int → Int → Int × Int
  | [], _, _, _ => (0, 0)
  | b :: r, i, st, c =>
    if ustep st b.toNat = 8 then (0, 0)
    else if ustep st b.toNat = 0 then (uadd i c b.toNat, (i : Int) + 1)
    else uscF r (i + 1) (ustep st b.toNat) (uadd i c b.toNat)
/-- .., by ranges. -/
def scalV : List UInt8 → Int × Int
  | [] => (0, 0)
  | b0 :: r =>
    if (b0.toNat : Int) < 128 then ((b0.toNat : Int), 1)
    else if 194 ≤ (b0.toNat : Int) ∧ (b0.toNat : Int) ≤ 223 then
      (match r with
        | b1 :: _ => if 128 ≤ (b1.toNat : Int) ∧ (b1.toNat : Int) ≤ 191 then (((b0.toNat : Int) - 192) * 64 + ((b1.toNat : Int) - 128), 2) else (0, 0)
        | [] => (0, 0))
    else if 224 ≤ (b0.toNat : Int) ∧ (b0.toNat : Int) ≤ 239 then
      (match r with
        | b1 :: b2 :: _ => if (if (b0.toNat : Int) = 224 then 160 else 128) ≤ (b1.toNat : Int) ∧ (b1.toNat : Int) ≤ (if (b0.toNat : Int) = 237 then 159 else 191) ∧ 128 ≤ (b2.toNat : Int) ∧ (b2.toNat : Int) ≤ 191 then ((((b0.toNat : Int) - 224) * 64 + ((b1.toNat : Int) - 128)) * 64 + ((b2.toNat : Int) - 128), 3) else (0, 0)
        | _ => (0, 0))
    else if 240 ≤ (b0.toNat : Int) ∧ (b0.toNat : Int) ≤ 244 then
      (match r with
        | b1 :: b2 :: b3 :: _ => if (if (b0.toNat : Int) = 240 then 144 else 128) ≤ (b1.toNat : Int) ∧ (b1.toNat : Int) ≤ (if (b0.toNat : Int) = 244 then 143 else 191) ∧ 128 ≤ (b2.toNat : Int) ∧ (b2.toNat : Int) ≤ 191 ∧ 128 ≤ (b3.toNat : Int) ∧ (b3.toNat : Int) ≤ 191 then (((((b0.toNat : Int) - 240) * 64 + ((b1.toNat : Int) - 128)) * 64 + ((b2.toNat : Int) - 128)) * 64 + ((b3.toNat : Int) - 128), 4) else (0, 0)
        | _ => (0, 0))
    else (0, 0)

theorem uscF_nil (i : Nat) (st c : Int) : uscF [] i st c = (0, 0) := rfl
theorem uscF_dead (b : UInt8) (r : List UInt8) (i : Nat) (st c : Int) (h : ustep st b.toNat = 8) : uscF (b :: r) i st c = (0, 0) := by rw [uscF, if_pos h]
theorem uscF_end (b : UInt8) (r : List UInt8) (i : Nat) (st c : Int) (h : ustep st b.toNat = 0) : uscF (b :: r) i st c = (uadd i c b.toNat, (i : Int) + 1) := by rw [uscF, if_neg (by omega), if_pos h]
theorem uscF_go (b : UInt8) (r : List UInt8) (i : Nat) (st c t : Int) (h : ustep st b.toNat = t) (h0 : t ≠ 0) (h8 : t ≠ 8) : uscF (b :: r) i st c = uscF r (i + 1) t (uadd i c b.toNat) := by
  rw [uscF, if_neg (by omega), if_neg (by omega), h]
/-- The last byte of a scalar. -/
theorem uscF_one (r : List UInt8) (i : Nat) (c : Int) (hi : 0 < i) : uscF r i 1 c = match r with | b :: _ => if 128 ≤ (b.toNat : Int) ∧ (b.toNat : Int) ≤ 191 then (c * 64 + ((b.toNat : Int) - 128), (i : Int) + 1) else (0, 0) | [] => (0, 0) := by
  cases r with
  | nil => rfl
  | cons b r =>
    by_cases h : 128 ≤ (b.toNat : Int) ∧ (b.toNat : Int) ≤ 191
    · have hs : ustep 1 b.toNat = 0 := by unfold ustep; simp; omega
      rw [uscF_end b r i 1 c hs]; simp only; rw [if_pos h, uadd, if_pos hi]
      congr 2; omega
    · have hs : ustep 1 b.toNat = 8 := by unfold ustep; simp; omega
      rw [uscF_dead b r i 1 c hs]; simp only; rw [if_neg h]

/-- Behind a byte that leaves one more (in state st, between lo and hi). -/
theorem uscF_st (st t lo hi : Int) (hst : ∀ b : Int, ustep st b = if lo ≤ b ∧ b ≤ hi then t else 8) (h0 : t ≠ 0) (h8 : t ≠ 8) (hlo : 128 ≤ lo) (hhi : hi ≤ 191) (r : List UInt8) (i : Nat) (c : Int) (hi0 : 0 < i) :
    uscF r i st c = match r with | b :: r' => if lo ≤ (b.toNat : Int) ∧ (b.toNat : Int) ≤ hi then uscF r' (i + 1) t (c * 64 + ((b.toNat : Int) - 128)) else (0, 0) | [] => (0, 0) := by
  cases r with
  | nil => rfl
  | cons b r =>
    have hb := hst b.toNat
    by_cases h : lo ≤ (b.toNat : Int) ∧ (b.toNat : Int) ≤ hi
    · rw [if_pos h] at hb
      rw [uscF_go b r i st c t hb h0 h8]; simp only; rw [if_pos h, uadd, if_pos hi0, show (b.toNat : Int) % 64 = (b.toNat : Int) - 128 by omega]
    · rw [if_neg h] at hb
      rw [uscF_dead b r i st c hb]; simp only; rw [if_neg h]
theorem us2 (b : Int) : ustep 2 b = if 128 ≤ b ∧ b ≤ 191 then 1 else 8 := by unfold ustep; simp
theorem us3 (b : Int) : ustep 3 b = if 128 ≤ b ∧ b ≤ 191 then 2 else 8 := by unfold ustep; simp
theorem us4 (b : Int) : ustep 4 b = if 160 ≤ b ∧ b ≤ 191 then 1 else 8 := by unfold ustep; simp
theorem us5 (b : Int) : ustep 5 b = if 128 ≤ b ∧ b ≤ 159 then 1 else 8 := by unfold ustep; simp
theorem us6 (b : Int) : ustep 6 b = if 144 ≤ b ∧ b ≤ 191 then 2 else 8 := by unfold ustep; simp
theorem us7 (b : Int) : ustep 7 b = if 128 ≤ b ∧ b ≤ 143 then 2 else 8 := by unfold ustep; simp
/-- Two bytes more. -/
theorem uscF_two (st lo hi : Int) (hst : ∀ b : Int, ustep st b = if lo ≤ b ∧ b ≤ hi then 1 else 8) (hlo : 128 ≤ lo) (hhi : hi ≤ 191) (r : List UInt8) (i : Nat) (c : Int) (hi0 : 0 < i) :
    uscF r i st c = match r with | b1 :: b2 :: _ => if lo ≤ (b1.toNat : Int) ∧ (b1.toNat : Int) ≤ hi ∧ 128 ≤ (b2.toNat : Int) ∧ (b2.toNat : Int) ≤ 191 then ((c * 64 + ((b1.toNat : Int) - 128)) * 64 + ((b2.toNat : Int) - 128), (i : Int) + 2) else (0, 0) | _ => (0, 0) := by
  rw [uscF_st st 1 lo hi hst (by omega) (by omega) hlo hhi r i c hi0]
  match r with
  | [] => rfl
  | [b1] =>
    simp only
    split
    · rw [uscF_one _ _ _ (by omega)]
    · rfl
  | b1 :: b2 :: r' =>
    simp only
    by_cases h : lo ≤ (b1.toNat : Int) ∧ (b1.toNat : Int) ≤ hi
    · rw [if_pos h, uscF_one _ _ _ (by omega)]
      simp only
      by_cases h2 : 128 ≤ (b2.toNat : Int) ∧ (b2.toNat : Int) ≤ 191
      · rw [if_pos h2, if_pos ⟨h.1, h.2, h2.1, h2.2⟩, show ((i + 1 : Nat) : Int) + 1 = (i : Int) + 2 by omega]
      · rw [if_neg h2, if_neg (fun hc => h2 hc.2.2)]
    · rw [if_neg h, if_neg (fun hc => h ⟨hc.1, hc.2.1⟩)]
theorem uscF_three (st lo hi : Int) (hst : ∀ b : Int, ustep st b = if lo ≤ b ∧ b ≤ hi then 2 else 8) (hlo : 128 ≤ lo) (hhi : hi ≤ 191) (r : List UInt8) (i : Nat) (c : Int) (hi0 : 0 < i) :
    uscF r i st c = match r with | b1 :: b2 :: b3 :: _ => if lo ≤ (b1.toNat : Int) ∧ (b1.toNat : Int) ≤ hi ∧ 128 ≤ (b2.toNat : Int) ∧ (b2.toNat : Int) ≤ 191 ∧ 128 ≤ (b3.toNat : Int) ∧ (b3.toNat : Int) ≤ 191 then (((c * 64 + ((b1.toNat : Int) - 128)) * 64 + ((b2.toNat : Int) - 128)) * 64 + ((b3.toNat : Int) - 128), (i : Int) + 3) else (0, 0) | _ => (0, 0) := by
  rw [uscF_st st 2 lo hi hst (by omega) (by omega) hlo hhi r i c hi0]
  match r with
  | [] => rfl
  | b1 :: r' =>
    by_cases h : lo ≤ (b1.toNat : Int) ∧ (b1.toNat : Int) ≤ hi
    · simp only
      rw [if_pos h, uscF_two 2 128 191 us2 (by omega) (by omega) _ _ _ (by omega)]
      match r' with
      | [] => rfl
      | [b2] => rfl
      | b2 :: b3 :: r'' =>
        simp only
        by_cases h2 : 128 ≤ (b2.toNat : Int) ∧ (b2.toNat : Int) ≤ 191 ∧ 128 ≤ (b3.toNat : Int) ∧ (b3.toNat : Int) ≤ 191
        · rw [if_pos h2, if_pos ⟨h.1, h.2, h2⟩, show ((i + 1 : Nat) : Int) + 2 = (i : Int) + 3 by omega]
        · rw [if_neg h2, if_neg (fun hc => h2 hc.2.2)]
    · simp only
      rw [if_neg h]
      match r' with
      | [] => rfl
      | [b2] => rfl
      | b2 :: b3 :: r'' => simp only; rw [if_neg (fun hc => h ⟨hc.1, hc.2.1⟩)]
/-- The machine is the ranges. -/
theorem usc_scal (l : List UInt8) : uscF l 0 0 0 = scalV l := by
  match l with
  | [] => rfl
  | b0 :: r =>
    have hb := b0.toNat_lt
    unfold scalV
    simp only
    by_cases h1 : (b0.toNat : Int) < 128
    · rw [if_pos h1, uscF_end b0 r 0 0 0 (by unfold ustep ufirst; rw [if_pos rfl, if_pos h1]), uadd, if_neg (by omega), if_pos h1]; rfl
    · rw [if_neg h1]
      by_cases h2 : 194 ≤ (b0.toNat : Int) ∧ (b0.toNat : Int) ≤ 223
      · rw [if_pos h2, uscF_go b0 r 0 0 0 1 (by unfold ustep ufirst; rw [if_pos rfl, if_neg h1, if_pos h2]) (by omega) (by omega), uscF_one _ _ _ (by omega)]
        rw [uadd, if_neg (by omega), if_neg h1, if_neg (by omega), if_neg (by omega), show (b0.toNat : Int) % 32 = (b0.toNat : Int) - 192 by omega]
        cases r <;> rfl
      · rw [if_neg h2]
        by_cases h3 : 224 ≤ (b0.toNat : Int) ∧ (b0.toNat : Int) ≤ 239
        · rw [if_pos h3]
          have ha : uadd 0 0 b0.toNat = (b0.toNat : Int) - 224 := by rw [uadd, if_neg (by omega), if_neg h1, if_neg (by omega), if_pos h3.1]; omega
          have hz : (((0 + 1 : Nat) : Int) + 2) = 3 := rfl
          by_cases h4 : (b0.toNat : Int) = 224
          · rw [uscF_go b0 r 0 0 0 4 (by unfold ustep ufirst; rw [if_pos rfl, if_neg h1, if_neg h2, if_pos h4]) (by omega) (by omega), uscF_two 4 160 191 us4 (by omega) (by omega) _ _ _ (by omega), ha, hz, if_pos h4, if_neg (by omega)]
          · by_cases h5 : (b0.toNat : Int) = 237
            · rw [uscF_go b0 r 0 0 0 5 (by unfold ustep ufirst; rw [if_pos rfl, if_neg h1, if_neg h2, if_neg h4, if_pos h5]) (by omega) (by omega), uscF_two 5 128 159 us5 (by omega) (by omega) _ _ _ (by omega), ha, hz, if_neg h4, if_pos h5]
            · rw [uscF_go b0 r 0 0 0 2 (by unfold ustep ufirst; rw [if_pos rfl, if_neg h1, if_neg h2, if_neg h4, if_neg h5, if_pos (by omega)]) (by omega) (by omega), uscF_two 2 128 191 us2 (by omega) (by omega) _ _ _ (by omega), ha, hz, if_neg h4, if_neg h5]
        · rw [if_neg h3]
          by_cases h6 : 240 ≤ (b0.toNat : Int) ∧ (b0.toNat : Int) ≤ 244
          · rw [if_pos h6]
            have ha : uadd 0 0 b0.toNat = (b0.toNat : Int) - 240 := by rw [uadd, if_neg (by omega), if_neg h1, if_pos h6.1]; omega
            have hz : (((0 + 1 : Nat) : Int) + 3) = 4 := rfl
            by_cases h4 : (b0.toNat : Int) = 240
            · rw [uscF_go b0 r 0 0 0 6 (by unfold ustep ufirst; rw [if_pos rfl, if_neg h1, if_neg h2, if_neg (by omega), if_neg (by omega), if_neg (by omega), if_pos h4]) (by omega) (by omega), uscF_three 6 144 191 us6 (by omega) (by omega) _ _ _ (by omega), ha, hz, if_pos h4, if_neg (by omega)]
            · by_cases h5 : (b0.toNat : Int) = 244
              · rw [uscF_go b0 r 0 0 0 7 (by unfold ustep ufirst; rw [if_pos rfl, if_neg h1, if_neg h2, if_neg (by omega), if_neg (by omega), if_neg (by omega), if_neg h4, if_neg (by omega), if_pos h5]) (by omega) (by omega), uscF_three 7 128 143 us7 (by omega) (by omega) _ _ _ (by omega), ha, hz, if_neg h4, if_pos h5]
              · rw [uscF_go b0 r 0 0 0 3 (by unfold ustep ufirst; rw [if_pos rfl, if_neg h1, if_neg h2, if_neg (by omega), if_neg (by omega), if_neg (by omega), if_neg h4, if_pos (by omega)]) (by omega) (by omega), uscF_three 3 128 191 us3 (by omega) (by omega) _ _ _ (by omega), ha, hz, if_neg h4, if_neg h5]
          · rw [if_neg h6, uscF_dead b0 r 0 0 0 (by unfold ustep ufirst; rw [if_pos rfl, if_neg h1, if_neg h2, if_neg (by omega), if_neg (by omega), if_neg (by omega), if_neg (by omega), if_neg (by omega), if_neg (by omega)])]

/- qlex on byte lists: tokens; plain. -/

/-- A token: kind, text, number, place, gap. -/
structure TokD where
  kind : Int
  s : List UInt8
  n : Int
  at_ : Nat
  gap : Bool
def isBk (c : UInt8) : Bool := c == 32 || c == 9 || c == 10 || c == 13
def bkN : List UInt8 → Nat
  | [] => 0
  | c :: r => if isBk c then bkN r + 1 else 0
def isLet (c : Int) : Bool := (decide (97 ≤ c) && decide (c ≤ 122)) || (decide (65 ≤ c) && decide (c ≤ 90)) || decide (c = 95) || decide (128 ≤ c)
/-- How many bytes the letter has with which bytes begin. -/
def letL (l : List UInt8) : Nat := if isLet (scalV l).1 && decide (0 < (scalV l).2) then (scalV l).2.toNat else 0
/-- .., behind the first one: a digit too. -/
def letR (l : List UInt8) : Nat := if letL l = 0 then (match l with | c :: _ => if isDig c then 1 else 0 | [] => 0) else letL l
def namF : Nat → List UInt8 → Nat
  | 0, _ => 0
  | f + 1, l => if letR l = 0 then 0 else letR l + namF f (l.drop (letR l))
def nameL (l : List UInt8) : Nat := if letL l = 0 then 0 else letL l + namF l.length (l.drop (letL l))
/-- A number's digits: never beyond 2^53. -/
def capI (a : Int) (c : UInt8) : Int := min (a * 10 + ((c.toNat : Int) - 48)) 9007199254740992
def numV (l : List UInt8) : Int := l.foldl capI 0
/-- The number with which bytes begin: its value and how many bytes, or the error. -/
def numT (l : List UInt8) : Except Int (Int × Nat) :=
  if digN (l.drop (if hd l 45 then 1 else 0)) = 0 ∨ (hd (l.drop (if hd l 45 then 1 else 0)) 48 = true ∧ (hd l 45 = true ∨ 1 < digN (l.drop (if hd l 45 then 1 else 0)))) then .error 3
  else if numV ((l.drop (if hd l 45 then 1 else 0)).take (digN (l.drop (if hd l 45 then 1 else 0)))) = 9007199254740992 then .error 6
  else .ok ((if hd l 45 then -numV ((l.drop 1).take (digN (l.drop 1))) else numV (l.take (digN l))), (if hd l 45 then 1 else 0) + digN (l.drop (if hd l 45 then 1 else 0)))
def hexV (c : UInt8) : Option Int :=
  if 48 ≤ c.toNat ∧ c.toNat ≤ 57 then some ((c.toNat : Int) - 48) else if 97 ≤ c.toNat ∧ c.toNat ≤ 102 then some ((c.toNat : Int) - 87) else if 65 ≤ c.toNat ∧ c.toNat ≤ 70 then some ((c.toNat : Int) - 55) else none
/-- Four digits. -/
def unitV : List UInt8 → Option Int
  | a :: b :: c :: d :: _ => (hexV a).bind fun a => (hexV b).bind fun b => (hexV c).bind fun c => (hexV d).map fun d => ((a * 16 + b) * 16 + c) * 16 + d
  | _ => none
/-- What a sign behind a 5c is. -/
def escV (mark c : UInt8) : Option Int :=
  if c = mark then some c.toNat else if c = 92 then some 92 else if c = 47 then some 47 else if c = 98 then some 8 else if c = 102 then some 12 else if c = 110 then some 10 else if c = 114 then some 13 else if c = 116 then some 9 else none
/-- The character with which bytes begin: its scalar, and how many bytes. -/
def charT (mark : UInt8) (l : List UInt8) : Option (Int × Nat) :=
  match l with
  | [] => none
  | c :: r =>
    if c.toNat < 32 then none
    else if c ≠ 92 then (if (scalV l).2 = 0 then none else some ((scalV l).1, (scalV l).2.toNat))
    else match r with
      | [] => none
      | d :: r2 =>
        if d = 117 then
          (match unitV r2 with
            | none => none
            | some a =>
              if a < 55296 ∨ 57343 < a then some (a, 6)
              else if 56320 ≤ a then none
              else if hd (r2.drop 4) 92 && hd (r2.drop 5) 117 then
                (match unitV (r2.drop 6) with
                  | none => none
                  | some b => if 56320 ≤ b ∧ b ≤ 57343 then some (65536 + (a - 55296) * 1024 + (b - 56320), 12) else none)
              else none)
        else (escV mark d).map (·, 2)
/-- A scalar's bytes. -/
def putV (c : Int) : List UInt8 :=
  if c < 128 then [UInt8.ofNat c.toNat]
  else if c < 2048 then [UInt8.ofNat (192 + c / 64).toNat, UInt8.ofNat (128 + c % 64).toNat]
  else if c < 65536 then [UInt8.ofNat (224 + c / 4096).toNat, UInt8.ofNat (128 + c / 64 % 64).toNat, UInt8.ofNat (128 + c % 64).toNat]
  else [UInt8.ofNat (240 + c / 262144).toNat, UInt8.ofNat (128 + c / 4096 % 64).toNat, UInt8.ofNat (128 + c / 64 % 64).toNat, UInt8.ofNat (128 + c % 64).toNat]
/-- Behind the mark: the text, and how many bytes with the mark at the end. -/
def txtF : Nat → UInt8 → List UInt8 → Option (List UInt8 × Nat)
  | 0, _, _ => none
  | f + 1, mark, l =>
    match l with
    | [] => none
    | c :: _ =>
      if c = mark then some ([], 1)
      else match charT mark l with
        | none => none
        | some (x, n) => (txtF f mark (l.drop n)).map fun (t, k) => (putV x ++ t, n + k)
def signsL : List (List UInt8) := [[46, 46], [38, 38], [124, 124], [61, 61], [33, 61], [60, 61], [62, 61], [36], [64], [46], [91], [93], [40], [41], [42], [44], [58], [63], [33], [60], [62]]
/-- The token with which bytes begin: kind, text, number, how many bytes; or the error. -/
def tokT (l : List UInt8) : Except Int (Int × List UInt8 × Int × Nat) :=
  match l with
  | [] => .error 3
  | c :: r =>
    if c = 34 ∨ c = 39 then (match txtF (r.length + 1) c r with | some (t, n) => .ok (4, t, 0, n + 1) | none => .error 3)
    else if isDig c = true ∨ c = 45 then (match numT l with | .ok (v, n) => .ok (3, [], v, n) | .error e => .error e)
    else if 0 < nameL l then .ok (2, l.take (nameL l), 0, nameL l)
    else match signsL.find? (fun x => l.take x.length == x) with
      | some x => .ok (1, x, 0, x.length)
      | none => .error 3
def lexF : Nat → Nat → List UInt8 → Except (Int × Nat) (List TokD)
  | 0, _, _ => .ok []
  | f + 1, a, u =>
    if u = [] then .ok []
    else if 0 < bkN u ∧ (a = 0 ∨ u.drop (bkN u) = []) then .error (3, a)
    else match tokT (u.drop (bkN u)) with
      | .error e => .error (e, a + bkN u)
      | .ok (k, t, v, n) =>
        match lexF f (a + bkN u + n) ((u.drop (bkN u)).drop n) with
        | .error e => .error e
        | .ok r => .ok (⟨k, t, v, a + bkN u, decide (0 < bkN u)⟩ :: r)
def lexL (l : List UInt8) : Except (Int × Nat) (List TokD) :=
  if 4096 < l.length then .error (4, 0)
  else match lexF (l.length + 1) 0 l with
    | .error e => .error e
    | .ok [] => .error (3, 0)
    | .ok r => .ok r

/-- A token of bytes, at a place. -/
def tokOf (k : Int) (t : List UInt8) (v : Int) (a : Nat) (g : Bool) : TokD := ⟨k, t, v, a, g⟩
example : (lexL [36, 46, 97]).toOption.map List.length = some 3 := by decide

/- qlex on byte lists: how long tokens are; plain. -/

theorem ite_P {α : Type} {c : Prop} [Decidable c] {a b : α} (Q : α → Prop) (ha : c → Q a) (hb : ¬ c → Q b) : Q (if c then a else b) := by
  by_cases h : c
  · rw [if_pos h]; exact ha h
  · rw [if_neg h]; exact hb h
def sOK (n : Nat) (x : Int × Int) : Prop := 0 ≤ x.2 ∧ x.2.toNat ≤ n ∧ 0 ≤ x.1
theorem sOK_no (n : Nat) : sOK n (0, 0) := ⟨by simp, by simp, by simp⟩
theorem sOK_mk {n : Nat} {a b : Int} (h1 : 0 ≤ a) (h2 : 0 ≤ b) (h3 : b.toNat ≤ n) : sOK n (a, b) := ⟨h2, h3, h1⟩
theorem scalV_ok (l : List UInt8) : sOK l.length (scalV l) := by
  cases l with
  | nil => exact sOK_no 0
  | cons b0 r =>
    unfold scalV
    refine ite_P (sOK _) (fun h => sOK_mk (by omega) (by omega) (by simp)) (fun h => ?_)
    refine ite_P (sOK _) (fun h => ?_) (fun h => ?_)
    · cases r with
      | nil => exact sOK_no _
      | cons b1 r => exact ite_P (sOK _) (fun h => sOK_mk (by omega) (by omega) (by simp)) (fun h => sOK_no _)
    · refine ite_P (sOK _) (fun h => ?_) (fun h => ?_)
      · cases r with
        | nil => exact sOK_no _
        | cons b1 r =>
          cases r with
          | nil => exact sOK_no _
          | cons b2 r => exact ite_P (sOK _) (fun h => sOK_mk (by have := h.1; split at this <;> omega) (by omega) (by simp)) (fun h => sOK_no _)
      · refine ite_P (sOK _) (fun h => ?_) (fun h => sOK_no _)
        cases r with
        | nil => exact sOK_no _
        | cons b1 r =>
          cases r with
          | nil => exact sOK_no _
          | cons b2 r =>
            cases r with
            | nil => exact sOK_no _
            | cons b3 r => exact ite_P (sOK _) (fun h => sOK_mk (by have := h.1; split at this <;> omega) (by omega) (by simp)) (fun h => sOK_no _)
theorem scalV_len (l : List UInt8) : 0 ≤ (scalV l).2 ∧ (scalV l).2.toNat ≤ l.length ∧ 0 ≤ (scalV l).1 := scalV_ok l
theorem letL_le (l : List UInt8) : letL l ≤ l.length := by
  unfold letL; split
  · exact (scalV_len l).2.1
  · omega
theorem letR_le (l : List UInt8) : letR l ≤ l.length := by
  unfold letR; split
  · cases l with
    | nil => simp
    | cons c r => simp only; split <;> simp
  · exact letL_le l
theorem namF_le : ∀ (f : Nat) (l : List UInt8), namF f l ≤ l.length
  | 0, _ => by simp [namF]
  | f + 1, l => by
    unfold namF; split
    · omega
    · have h1 := letR_le l
      have h2 := namF_le f (l.drop (letR l))
      rw [List.length_drop] at h2; omega
theorem nameL_le (l : List UInt8) : nameL l ≤ l.length := by
  unfold nameL; split
  · omega
  · have h1 := letL_le l
    have h2 := namF_le l.length (l.drop (letL l))
    rw [List.length_drop] at h2; omega
theorem charT_len (mark : UInt8) (l : List UInt8) (x : Int) (n : Nat) (h : charT mark l = some (x, n)) : 0 < n ∧ n ≤ l.length := by
  unfold charT at h
  match l with
  | [] => simp at h
  | c :: r =>
    simp only at h
    split at h
    · cases h
    · split at h
      · have hs := scalV_len (c :: r)
        split at h
        · cases h
        · simp only [Option.some.injEq, Prod.mk.injEq] at h
          omega
      · match r with
        | [] => simp at h
        | d :: r2 =>
          simp only at h
          split at h
          · match hr : r2 with
            | a1 :: a2 :: a3 :: a4 :: r3 =>
              revert h
              cases hu : unitV (a1 :: a2 :: a3 :: a4 :: r3) with
              | none => intro h; cases h
              | some a =>
                simp only
                intro h
                split at h
                · simp only [Option.some.injEq, Prod.mk.injEq] at h; simp; omega
                · split at h
                  · cases h
                  · split at h
                    · match hr3 : r3 with
                      | e1 :: e2 :: e3 :: e4 :: e5 :: e6 :: r4 =>
                        revert h
                        cases unitV ((a1 :: a2 :: a3 :: a4 :: e1 :: e2 :: e3 :: e4 :: e5 :: e6 :: r4).drop 6) with
                        | none => intro h; cases h
                        | some b =>
                          simp only
                          intro h
                          split at h
                          · simp only [Option.some.injEq, Prod.mk.injEq] at h; simp; omega
                          · cases h
                      | [] | [_] | [_, _] | [_, _, _] | [_, _, _, _] | [_, _, _, _, _] => simp [unitV] at h
                    · cases h
            | [] | [_] | [_, _] | [_, _, _] => simp [unitV] at h
          · cases he : escV mark d with
            | none => rw [he] at h; cases h
            | some e => rw [he] at h; simp only [Option.map_some, Option.some.injEq, Prod.mk.injEq] at h; simp; omega
theorem txtF_len : ∀ (f : Nat) (mark : UInt8) (l : List UInt8) (t : List UInt8) (n : Nat), txtF f mark l = some (t, n) → 0 < n ∧ n ≤ l.length
  | 0, _, _, _, _, h => by simp [txtF] at h
  | f + 1, mark, l, t, n, h => by
    unfold txtF at h
    match l with
    | [] => simp at h
    | c :: r =>
      simp only at h
      split at h
      · simp only [Option.some.injEq, Prod.mk.injEq] at h; simp; omega
      · cases hc : charT mark (c :: r) with
        | none => rw [hc] at h; cases h
        | some xn =>
          obtain ⟨x, m⟩ := xn
          rw [hc] at h
          simp only at h
          have h1 := charT_len mark (c :: r) x m hc
          cases ht : txtF f mark ((c :: r).drop m) with
          | none => rw [ht] at h; cases h
          | some tk =>
            obtain ⟨t', k⟩ := tk
            rw [ht] at h
            simp only [Option.map_some, Option.some.injEq, Prod.mk.injEq] at h
            have h2 := txtF_len f mark _ t' k ht
            rw [List.length_drop] at h2
            omega

theorem num_aux (P Q : Prop) [Decidable P] [Decidable Q] (a : Int) (m n : Nat) (v : Int) (h : (if P then (.error 3 : Except Int (Int × Nat)) else if Q then .error 6 else .ok (a, m)) = .ok (v, n)) : ¬ P ∧ ¬ Q ∧ a = v ∧ m = n := by
  by_cases hp : P
  · rw [if_pos hp] at h; cases h
  · rw [if_neg hp] at h
    by_cases hq : Q
    · rw [if_pos hq] at h; cases h
    · rw [if_neg hq] at h
      simp only [Except.ok.injEq, Prod.mk.injEq] at h
      exact ⟨hp, hq, h.1, h.2⟩
theorem numT_len (l : List UInt8) (v : Int) (n : Nat) (h : numT l = .ok (v, n)) : 0 < n ∧ n ≤ l.length := by
  unfold numT at h
  obtain ⟨h1, _, _, h3⟩ := num_aux _ _ _ _ _ _ h
  have h2 : digN (l.drop (if hd l 45 then 1 else 0)) ≠ 0 := fun e => h1 (.inl e)
  have hd' := digN_le (l.drop (if hd l 45 then 1 else 0))
  rw [List.length_drop] at hd'
  omega
theorem signs_pos : ∀ x ∈ signsL, 0 < x.length := by decide
/-- What is known of a token. -/
def tokOK (l : List UInt8) (k : Int) (t : List UInt8) (n : Nat) : Prop := 0 < n ∧ n ≤ l.length ∧ ((k = 1 ∨ k = 2) → t = l.take n ∧ t.length = n)
theorem tokT_ok (l : List UInt8) (k : Int) (t : List UInt8) (v : Int) (n : Nat) (h : tokT l = .ok (k, t, v, n)) : tokOK l k t n := by
  unfold tokT at h
  cases l with
  | nil => cases h
  | cons c r =>
    simp only at h
    split at h
    · cases ht : txtF (r.length + 1) c r with
      | none => rw [ht] at h; cases h
      | some tn =>
        obtain ⟨t', m⟩ := tn
        rw [ht] at h
        simp only [Except.ok.injEq, Prod.mk.injEq] at h
        have h1 := txtF_len _ _ _ _ _ ht
        obtain ⟨rfl, rfl, rfl, rfl⟩ := h
        exact ⟨by omega, by simp; omega, by omega⟩
    · split at h
      · cases hn : numT (c :: r) with
        | error e => rw [hn] at h; cases h
        | ok vn =>
          obtain ⟨v', m⟩ := vn
          rw [hn] at h
          simp only [Except.ok.injEq, Prod.mk.injEq] at h
          have h1 := numT_len _ _ _ hn
          obtain ⟨rfl, rfl, rfl, rfl⟩ := h
          exact ⟨h1.1, h1.2, by omega⟩
      · split at h
        · simp only [Except.ok.injEq, Prod.mk.injEq] at h
          obtain ⟨rfl, rfl, rfl, rfl⟩ := h
          rename_i hp
          have hl := nameL_le (c :: r)
          exact ⟨hp, hl, fun _ => ⟨rfl, by rw [List.length_take]; omega⟩⟩
        · cases hs : signsL.find? (fun x => (c :: r).take x.length == x) with
          | none => rw [hs] at h; cases h
          | some x =>
            rw [hs] at h
            simp only [Except.ok.injEq, Prod.mk.injEq] at h
            obtain ⟨rfl, rfl, rfl, rfl⟩ := h
            have hx := List.find?_some hs
            have hm := signs_pos x (List.mem_of_find?_eq_some hs)
            have he : (c :: r).take x.length = x := by simpa using hx
            have hle : x.length ≤ (c :: r).length := by
              have := congrArg List.length he
              rw [List.length_take] at this; omega
            exact ⟨hm, hle, fun _ => ⟨he.symm, rfl⟩⟩

/- qlex: QlexOrder's law on lists; plain. -/

/-- QlexOrder's loop. -/
def ordL (w : List UInt8) : Nat → List TokD → Bool
  | _, [] => true
  | from_, x :: r =>
    if x.at_ < from_ ∨ w.length ≤ x.at_ ∨ (x.gap = true ∧ x.at_ = from_) then false
    else if x.kind = 1 ∨ x.kind = 2 then
      (if x.s.length = 0 ∨ w.length - x.at_ < x.s.length ∨ (w.drop x.at_).take x.s.length ≠ x.s then false else ordL w (x.at_ + x.s.length) r)
    else ordL w (x.at_ + 1) r
theorem bkN_le : ∀ l : List UInt8, bkN l ≤ l.length
  | [] => by simp [bkN]
  | c :: r => by have := bkN_le r; unfold bkN; split <;> simp <;> omega
theorem bkN_lt (u : List UInt8) (h : u.drop (bkN u) ≠ []) : bkN u < u.length := by
  have := bkN_le u
  rcases Nat.lt_or_ge (bkN u) u.length with h1 | h1
  · exact h1
  · exact absurd (List.drop_eq_nil_of_le h1) h
/-- One round of Lex. -/
theorem lexF_step (f a : Nat) (u : List UInt8) (h : u ≠ []) : lexF (f + 1) a u =
    if 0 < bkN u ∧ (a = 0 ∨ u.drop (bkN u) = []) then .error (3, a)
    else match tokT (u.drop (bkN u)) with
      | .error e => .error (e, a + bkN u)
      | .ok (k, t, v, n) =>
        match lexF f (a + bkN u + n) ((u.drop (bkN u)).drop n) with
        | .error e => .error e
        | .ok r => .ok (⟨k, t, v, a + bkN u, decide (0 < bkN u)⟩ :: r) := by
  rw [lexF, if_neg h]
  try rfl
theorem lexF_nil (f a : Nat) : lexF f a [] = .ok [] := by cases f <;> simp [lexF]
theorem rest_ne (u : List UInt8) (a : Nat) (h : u ≠ []) (hc : ¬ (0 < bkN u ∧ (a = 0 ∨ u.drop (bkN u) = []))) : u.drop (bkN u) ≠ [] := by
  rcases Nat.eq_zero_or_pos (bkN u) with h0 | h0
  · rw [h0]; exact h
  · exact fun e => hc ⟨h0, .inr e⟩
theorem lexF_ord (w : List UInt8) : ∀ (f a from_ : Nat) (toks : List TokD), from_ ≤ a → lexF f a (w.drop a) = .ok toks → ordL w from_ toks = true
  | 0, _, _, toks, _, h => by simp [lexF] at h; subst h; rfl
  | f + 1, a, from_, toks, hfa, h => by
    by_cases hu : w.drop a = []
    · rw [hu, lexF_nil] at h; cases h; rfl
    · rw [lexF_step f a _ hu] at h
      split at h
      · cases h
      · rename_i hc
        have hne := rest_ne _ a hu hc
        have hlt := bkN_lt _ hne
        rw [List.length_drop] at hlt
        cases ht : tokT ((w.drop a).drop (bkN (w.drop a))) with
        | error e => rw [ht] at h; cases h
        | ok x =>
          obtain ⟨k, t, v, n⟩ := x
          rw [ht] at h
          simp only at h
          have hok := tokT_ok _ k t v n ht
          cases hr : lexF f (a + bkN (w.drop a) + n) (((w.drop a).drop (bkN (w.drop a))).drop n) with
          | error e => rw [hr] at h; cases h
          | ok r =>
            rw [hr] at h
            simp only [Except.ok.injEq] at h
            subst h
            obtain ⟨hn, hl, hs⟩ := hok
            rw [List.drop_drop, List.drop_drop, ← Nat.add_assoc] at hr
            rw [List.drop_drop] at hl hs
            rw [List.length_drop] at hl
            rw [ordL, if_neg (by simp only [decide_eq_true_eq]; omega)]
            by_cases hk : k = 1 ∨ k = 2
            · rw [if_pos hk]
              obtain ⟨h1, h2⟩ := hs hk
              rw [if_neg (by
                simp only [h2]
                intro hh
                rcases hh with hh | hh | hh
                · omega
                · omega
                · exact hh h1.symm), h2]
              exact lexF_ord w f _ _ r (Nat.le_refl _) hr
            · rw [if_neg hk]
              exact lexF_ord w f (a + bkN (w.drop a) + n) _ r (by show a + bkN (w.drop a) + 1 ≤ _; omega) hr
theorem lexF_err (w : List UInt8) : ∀ (f a : Nat) (e : Int × Nat), a ≤ w.length → lexF f a (w.drop a) = .error e → e.2 ≤ w.length
  | 0, _, e, _, h => by simp [lexF] at h
  | f + 1, a, e, hal, h => by
    by_cases hu : w.drop a = []
    · rw [hu, lexF_nil] at h; cases h
    · rw [lexF_step f a _ hu] at h
      have hb := bkN_le (w.drop a)
      rw [List.length_drop] at hb
      split at h
      · cases h; exact hal
      · cases ht : tokT ((w.drop a).drop (bkN (w.drop a))) with
        | error e' => rw [ht] at h; cases h; show a + bkN (w.drop a) ≤ _; omega
        | ok x =>
          obtain ⟨k, t, v, n⟩ := x
          rw [ht] at h
          simp only at h
          obtain ⟨hn, hl, hs⟩ := tokT_ok _ k t v n ht
          cases hr : lexF f (a + bkN (w.drop a) + n) (((w.drop a).drop (bkN (w.drop a))).drop n) with
          | error e' =>
            rw [hr] at h
            simp only [Except.error.injEq] at h
            subst h
            rw [List.drop_drop, List.drop_drop, ← Nat.add_assoc] at hr
            rw [List.drop_drop, List.length_drop] at hl
            exact lexF_err w f (a + bkN (w.drop a) + n) _ (by omega) hr
          | ok r => rw [hr] at h; cases h
/-- QlexOrder. -/
theorem lex_order (w : List UInt8) : match lexL w with | .error e => e.2 ≤ w.length | .ok r => ordL w 0 r = true ∧ r ≠ [] := by
  unfold lexL
  split
  · rename_i e he
    split at he
    · cases he; simp
    · split at he
      · rename_i e' hf
        cases he
        have := lexF_err w (w.length + 1) 0 e (by omega) (by simpa using hf)
        exact this
      · cases he; simp
      · cases he
  · rename_i r he
    split at he
    · cases he
    · split at he
      · cases he
      · cases he
      · rename_i hne hf
        cases he
        exact ⟨lexF_ord w (w.length + 1) 0 0 _ (by omega) (by simpa using hf), fun e => hne e⟩

/- qlex: what a token is told by; plain. -/

/-- A scalar is told by its own bytes. -/
def Loc (l : List UInt8) (x : Int × Int) : Prop := 0 < x.2 → ∀ r, scalV (l.take x.2.toNat ++ r) = x
theorem Loc_no (l : List UInt8) : Loc l (0, 0) := fun h => absurd h (by simp)
theorem scalV_loc (l : List UInt8) : Loc l (scalV l) := by
  cases l with
  | nil => exact Loc_no _
  | cons b0 r =>
    unfold scalV
    refine ite_P (Loc _) (fun h _ q => ?_) (fun h => ?_)
    · show scalV (b0 :: q) = _
      unfold scalV; simp only; rw [if_pos h]
    refine ite_P (Loc _) (fun h2 => ?_) (fun h2 => ?_)
    · cases r with
      | nil => exact Loc_no _
      | cons b1 r =>
        refine ite_P (Loc _) (fun h3 _ q => ?_) (fun _ => Loc_no _)
        show scalV (b0 :: b1 :: q) = _
        unfold scalV; simp only; rw [if_neg h, if_pos h2, if_pos h3]
    · refine ite_P (Loc _) (fun h3 => ?_) (fun h3 => ?_)
      · cases r with
        | nil => exact Loc_no _
        | cons b1 r =>
          cases r with
          | nil => exact Loc_no _
          | cons b2 r =>
            refine ite_P (Loc _) (fun h4 _ q => ?_) (fun _ => Loc_no _)
            show scalV (b0 :: b1 :: b2 :: q) = _
            unfold scalV; simp only; rw [if_neg h, if_neg h2, if_pos h3, if_pos h4]
      · refine ite_P (Loc _) (fun h4 => ?_) (fun _ => Loc_no _)
        cases r with
        | nil => exact Loc_no _
        | cons b1 r =>
          cases r with
          | nil => exact Loc_no _
          | cons b2 r =>
            cases r with
            | nil => exact Loc_no _
            | cons b3 r =>
              refine ite_P (Loc _) (fun h5 _ q => ?_) (fun _ => Loc_no _)
              show scalV (b0 :: b1 :: b2 :: b3 :: q) = _
              unfold scalV; simp only; rw [if_neg h, if_neg h2, if_neg h3, if_pos h4, if_pos h5]

theorem letL_pos (l : List UInt8) (h : letL l ≠ 0) : (isLet (scalV l).1 && decide (0 < (scalV l).2)) = true ∧ letL l = (scalV l).2.toNat ∧ 0 < (scalV l).2 := by
  unfold letL at h ⊢
  split at h
  · rename_i hc
    rw [if_pos hc]
    refine ⟨hc, rfl, ?_⟩
    rw [Bool.and_eq_true, decide_eq_true_eq] at hc
    exact hc.2
  · exact absurd rfl h
theorem letL_loc (l r : List UInt8) (h : letL l ≠ 0) : letL (l.take (letL l) ++ r) = letL l := by
  obtain ⟨h1, h2, h3⟩ := letL_pos l h
  have hs := scalV_loc l h3 r
  rw [← h2] at hs
  have e : ∀ u, scalV u = scalV l → letL u = letL l := fun u hu => by unfold letL; rw [hu]
  exact e _ hs
/-- Behind which nothing of a name goes on. -/
def Bnd (r : List UInt8) : Prop := r = [] ∨ ∃ c q, r = c :: q ∧ isBk c = true
theorem isBk_val {c : UInt8} (h : isBk c = true) : c = 32 ∨ c = 9 ∨ c = 10 ∨ c = 13 := by
  unfold isBk at h; simp at h; rcases h with ((h | h) | h) | h <;> simp [h]
theorem Bnd_letR {r : List UInt8} (h : Bnd r) : letR r = 0 := by
  rcases h with rfl | ⟨c, q, rfl, hc⟩
  · rfl
  · rcases isBk_val hc with rfl | rfl | rfl | rfl <;> rfl
theorem letR_loc (l r : List UInt8) (h : letR l ≠ 0) : letR (l.take (letR l) ++ r) = letR l := by
  unfold letR at h ⊢
  by_cases h0 : letL l = 0
  · rw [if_pos h0] at h ⊢
    cases l with
    | nil => exact absurd rfl h
    | cons c q =>
      simp only at h ⊢
      by_cases hd : isDig c = true
      · rw [if_pos hd] at h ⊢
        have hl : letL ((c :: q).take 1 ++ r) = 0 := by
          show letL (c :: r) = 0
          have hc := (dig_int c).1 hd
          have hv : scalV (c :: r) = ((c.toNat : Int), 1) := by unfold scalV; simp only; rw [if_pos (by omega)]
          have d1 : decide (97 ≤ (c.toNat : Int)) = false := decide_eq_false (by omega)
          have d2 : decide (65 ≤ (c.toNat : Int)) = false := decide_eq_false (by omega)
          have d3 : decide ((c.toNat : Int) = 95) = false := decide_eq_false (by omega)
          have d4 : decide (128 ≤ (c.toNat : Int)) = false := decide_eq_false (by omega)
          have this : isLet (c.toNat : Int) = false := by unfold isLet; rw [d1, d2, d3, d4]; rfl
          unfold letL; rw [hv]; simp only; rw [this]; rfl
        rw [if_pos hl]
        show (if isDig c = true then 1 else 0) = 1
        rw [if_pos hd]
      · rw [if_neg hd] at h; exact absurd rfl h
  · rw [if_neg h0] at h ⊢
    rw [letL_loc l r h0, if_neg h0]

theorem namF_zero (f : Nat) (r : List UInt8) (h : letR r = 0) : namF f r = 0 := by
  cases f with
  | zero => rfl
  | succ f => rw [namF, if_pos h]
theorem take_parts (l r : List UInt8) (n m : Nat) (hn : n ≤ l.length) : l.take (n + m) ++ r = l.take n ++ ((l.drop n).take m ++ r) ∧ (l.take (n + m) ++ r).drop n = (l.drop n).take m ++ r := by
  have h1 : l.take (n + m) ++ r = l.take n ++ ((l.drop n).take m ++ r) := by rw [← List.append_assoc, ← List.take_add]
  refine ⟨h1, ?_⟩
  rw [h1, List.drop_append_of_le_length (by rw [List.length_take]; omega), List.drop_eq_nil_of_le (by rw [List.length_take]; omega), List.nil_append]
theorem namF_loc : ∀ (f : Nat) (l r : List UInt8) (_ : letR r = 0) (f' : Nat), namF f l + 1 ≤ f' → namF f' (l.take (namF f l) ++ r) = namF f l
  | 0, l, r, hr, f', _ => by rw [namF]; simpa using namF_zero f' r hr
  | f + 1, l, r, hr, f', hf => by
    by_cases h0 : letR l = 0
    · rw [namF_zero _ _ h0] at hf ⊢; simpa using namF_zero f' r hr
    · have e : namF (f + 1) l = letR l + namF f (l.drop (letR l)) := by rw [namF, if_neg h0]
      rw [e] at hf ⊢
      obtain ⟨h1, h2⟩ := take_parts l r (letR l) (namF f (l.drop (letR l))) (letR_le l)
      obtain ⟨k, rfl⟩ : ∃ k, f' = k + 1 := ⟨f' - 1, by omega⟩
      have h3 : letR (l.take (letR l + namF f (l.drop (letR l))) ++ r) = letR l := by rw [h1]; exact letR_loc l _ h0
      rw [namF, h3, if_neg h0, h2, namF_loc f (l.drop (letR l)) r hr k (by omega)]
theorem nameL_loc (l r : List UInt8) (hr : letR r = 0) (h : nameL l ≠ 0) : nameL (l.take (nameL l) ++ r) = nameL l := by
  by_cases h0 : letL l = 0
  · exact absurd (by unfold nameL; rw [if_pos h0]) h
  · have e : nameL l = letL l + namF l.length (l.drop (letL l)) := by unfold nameL; rw [if_neg h0]
    rw [e]
    obtain ⟨h1, h2⟩ := take_parts l r (letL l) (namF l.length (l.drop (letL l))) (letL_le l)
    have h3 : letL (l.take (letL l + namF l.length (l.drop (letL l))) ++ r) = letL l := by rw [h1]; exact letL_loc l _ h0
    have hf := namF_le l.length (l.drop (letL l))
    rw [List.length_drop] at hf
    have hl := letL_le l
    unfold nameL
    rw [h3, if_neg h0, h2, namF_loc _ _ r hr _ (by rw [List.length_append, List.length_take]; omega)]

/- qlex: what a token is told by: numbers, signs; plain. -/

theorem digN_loc : ∀ (l r : List UInt8) (_ : digN r = 0), digN (l.take (digN l) ++ r) = digN l
  | [], r, hr => by simpa [digN] using hr
  | c :: l, r, hr => by
    by_cases hc : isDig c = true
    · have e : digN (c :: l) = digN l + 1 := by rw [digN, if_pos hc]
      rw [e, List.take_succ_cons, List.cons_append, digN, if_pos hc, digN_loc l r hr]
    · have e : digN (c :: l) = 0 := by rw [digN, if_neg hc]
      rw [e]; simpa using hr
theorem Bnd_dig {r : List UInt8} (h : Bnd r) : digN r = 0 := by
  rcases h with rfl | ⟨c, q, rfl, hc⟩
  · rfl
  · rcases isBk_val hc with rfl | rfl | rfl | rfl <;> rfl
theorem signs_loc (x r : List UInt8) (hx : x ∈ signsL) (hr : Bnd r) : signsL.find? (fun y => (x ++ r).take y.length == y) = some x := by
  simp only [signsL, List.mem_cons, List.not_mem_nil, or_false] at hx
  rcases hr with rfl | ⟨c, q, rfl, hc⟩
  · rcases hx with rfl | rfl | rfl | rfl | rfl | rfl | rfl | rfl | rfl | rfl | rfl | rfl | rfl | rfl | rfl | rfl | rfl | rfl | rfl | rfl | rfl <;> rfl
  · rcases isBk_val hc with rfl | rfl | rfl | rfl <;> rcases hx with rfl | rfl | rfl | rfl | rfl | rfl | rfl | rfl | rfl | rfl | rfl | rfl | rfl | rfl | rfl | rfl | rfl | rfl | rfl | rfl | rfl <;> rfl

theorem hexV_units (l r : List UInt8) (a : Int) (h : unitV l = some a) : unitV (l.take 4 ++ r) = some a := by
  match l, h with
  | a1 :: a2 :: a3 :: a4 :: q, h => exact h
  | [], h => cases h
  | [_], h => cases h
  | [_, _], h => cases h
  | [_, _, _], h => cases h
/-- A character is told by its own bytes. -/
theorem charT_loc (mark : UInt8) (l r : List UInt8) (x : Int) (n : Nat) (h : charT mark l = some (x, n)) : charT mark (l.take n ++ r) = some (x, n) := by
  have hlen := charT_len mark l x n h
  unfold charT at h
  match l with
  | [] => cases h
  | c :: q =>
    simp only at h
    by_cases h1 : c.toNat < 32
    · rw [if_pos h1] at h; cases h
    rw [if_neg h1] at h
    by_cases h2 : c ≠ 92
    · rw [if_pos h2] at h
      by_cases h3 : (scalV (c :: q)).2 = 0
      · rw [if_pos h3] at h; cases h
      · rw [if_neg h3] at h
        simp only [Option.some.injEq, Prod.mk.injEq] at h
        have hp := scalV_len (c :: q)
        have hl := scalV_loc (c :: q) (by omega) r
        rw [h.2] at hl
        obtain ⟨m, rfl⟩ : ∃ m, n = m + 1 := ⟨n - 1, by omega⟩
        have e : (c :: q).take (m + 1) ++ r = c :: (q.take m ++ r) := rfl
        rw [e] at hl ⊢
        unfold charT
        simp only
        rw [if_neg h1, if_pos h2, hl, if_neg h3, h.1, h.2]
    · rw [if_neg h2] at h
      match q with
      | [] => cases h
      | d :: r2 =>
        simp only at h
        by_cases h3 : d = 117
        · rw [if_pos h3] at h
          match r2 with
          | a1 :: a2 :: a3 :: a4 :: r3 =>
            cases hu : unitV (a1 :: a2 :: a3 :: a4 :: r3) with
            | none => rw [hu] at h; cases h
            | some a =>
              rw [hu] at h
              simp only at h
              have hu' : ∀ t, unitV (a1 :: a2 :: a3 :: a4 :: t) = some a := fun t => hu
              by_cases h4 : a < 55296 ∨ 57343 < a
              · rw [if_pos h4] at h
                simp only [Option.some.injEq, Prod.mk.injEq] at h
                obtain ⟨rfl, rfl⟩ := h
                show charT mark (c :: d :: a1 :: a2 :: a3 :: a4 :: r) = _
                unfold charT
                simp only
                rw [if_neg h1, if_neg h2, if_pos h3, hu']; simp only; rw [if_pos h4]
              · rw [if_neg h4] at h
                by_cases h5 : 56320 ≤ a
                · rw [if_pos h5] at h; cases h
                · rw [if_neg h5] at h
                  match r3 with
                  | e1 :: e2 :: e3 :: e4 :: e5 :: e6 :: r4 =>
                    by_cases h6 : (hd ((a1 :: a2 :: a3 :: a4 :: e1 :: e2 :: e3 :: e4 :: e5 :: e6 :: r4).drop 4) 92 && hd ((a1 :: a2 :: a3 :: a4 :: e1 :: e2 :: e3 :: e4 :: e5 :: e6 :: r4).drop 5) 117) = true
                    · rw [if_pos h6] at h
                      cases hb : unitV ((a1 :: a2 :: a3 :: a4 :: e1 :: e2 :: e3 :: e4 :: e5 :: e6 :: r4).drop 6) with
                      | none => rw [hb] at h; cases h
                      | some b =>
                        rw [hb] at h
                        simp only at h
                        have hb' : ∀ t, unitV ((a1 :: a2 :: a3 :: a4 :: e1 :: e2 :: e3 :: e4 :: e5 :: e6 :: t).drop 6) = some b := fun t => hb
                        have h6' : ∀ t, (hd ((a1 :: a2 :: a3 :: a4 :: e1 :: e2 :: e3 :: e4 :: e5 :: e6 :: t).drop 4) 92 && hd ((a1 :: a2 :: a3 :: a4 :: e1 :: e2 :: e3 :: e4 :: e5 :: e6 :: t).drop 5) 117) = true := fun t => h6
                        by_cases h7 : 56320 ≤ b ∧ b ≤ 57343
                        · rw [if_pos h7] at h
                          simp only [Option.some.injEq, Prod.mk.injEq] at h
                          obtain ⟨rfl, rfl⟩ := h
                          show charT mark (c :: d :: a1 :: a2 :: a3 :: a4 :: e1 :: e2 :: e3 :: e4 :: e5 :: e6 :: r) = _
                          unfold charT
                          simp only
                          rw [if_neg h1, if_neg h2, if_pos h3, hu']; simp only; rw [if_neg h4, if_neg h5, if_pos (h6' r), hb' r]; simp only; rw [if_pos h7]
                        · rw [if_neg h7] at h; cases h
                    · rw [if_neg h6] at h; cases h
                  | [] | [_] | [_, _] | [_, _, _] | [_, _, _, _] | [_, _, _, _, _] => split at h <;> first | (simp [unitV] at h; done) | cases h
          | [] | [_] | [_, _] | [_, _, _] => simp [unitV] at h
        · rw [if_neg h3] at h
          cases he : escV mark d with
          | none => rw [he] at h; cases h
          | some e =>
            rw [he] at h
            simp only [Option.map_some, Option.some.injEq, Prod.mk.injEq] at h
            obtain ⟨rfl, rfl⟩ := h
            show charT mark (c :: d :: r) = _
            unfold charT
            simp only
            rw [if_neg h1, if_neg h2, if_neg h3, he]; rfl

theorem hd_take (l r : List UInt8) (n : Nat) (c : UInt8) (h : 0 < n) (hl : n ≤ l.length) : hd (l.take n ++ r) c = hd l c := by
  cases l with
  | nil => simp at hl; omega
  | cons x q =>
    obtain ⟨m, rfl⟩ : ∃ m, n = m + 1 := ⟨n - 1, by omega⟩
    rfl
theorem txtF_loc : ∀ (f : Nat) (mark : UInt8) (l : List UInt8) (t : List UInt8) (n : Nat), txtF f mark l = some (t, n) → ∀ (r : List UInt8) (f' : Nat), n ≤ f' → txtF f' mark (l.take n ++ r) = some (t, n)
  | 0, _, _, _, _, h, _, _, _ => by simp [txtF] at h
  | f + 1, mark, l, t, n, h, r, f', hf => by
    have hlen := txtF_len _ _ _ _ _ h
    obtain ⟨g, rfl⟩ : ∃ g, f' = g + 1 := ⟨f' - 1, by omega⟩
    cases l with
    | nil => simp [txtF] at h
    | cons c q =>
      rw [txtF] at h
      simp only at h
      by_cases hc : c = mark
      · rw [if_pos hc] at h
        simp only [Option.some.injEq, Prod.mk.injEq] at h
        obtain ⟨rfl, rfl⟩ := h
        show txtF (g + 1) mark (c :: r) = _
        rw [txtF]; simp only; rw [if_pos hc]
      · rw [if_neg hc] at h
        cases hx : charT mark (c :: q) with
        | none => rw [hx] at h; cases h
        | some xm =>
          obtain ⟨x, m⟩ := xm
          rw [hx] at h
          simp only at h
          have h1 := charT_len mark (c :: q) x m hx
          cases ht : txtF f mark ((c :: q).drop m) with
          | none => rw [ht] at h; cases h
          | some tk =>
            obtain ⟨t', k⟩ := tk
            rw [ht] at h
            simp only [Option.map_some, Option.some.injEq, Prod.mk.injEq] at h
            obtain ⟨rfl, rfl⟩ := h
            have h2 := txtF_loc f mark _ t' k ht r g (by omega)
            obtain ⟨p1, p2⟩ := take_parts (c :: q) r m k h1.2
            have h3 := charT_loc mark (c :: q) (((c :: q).drop m).take k ++ r) x m hx
            rw [← p1] at h3
            obtain ⟨u, hu⟩ : ∃ u, (c :: q).take (m + k) ++ r = u := ⟨_, rfl⟩
            rw [hu] at p2 h3 ⊢
            have hu2 : ∃ q', u = c :: q' := by
              rw [← hu, show m + k = (m + k - 1) + 1 by omega]; exact ⟨_, rfl⟩
            obtain ⟨q', rfl⟩ := hu2
            rw [txtF]; simp only; rw [if_neg hc, h3]; simp only; rw [p2, h2]; rfl

/- qlex: a token is told by its own bytes and what bounds it; plain. -/

theorem num_mk (P Q : Prop) [Decidable P] [Decidable Q] (a : Int) (m : Nat) (hp : ¬ P) (hq : ¬ Q) : (if P then (.error 3 : Except Int (Int × Nat)) else if Q then .error 6 else .ok (a, m)) = .ok (a, m) := by rw [if_neg hp, if_neg hq]
theorem numT_loc (l : List UInt8) (v : Int) (n : Nat) (h : numT l = .ok (v, n)) (r : List UInt8) (hr : digN r = 0) : numT (l.take n ++ r) = .ok (v, n) := by
  have hlen := numT_len l v n h
  have h0 := h
  unfold numT at h
  obtain ⟨h1, h2, h3, h4⟩ := num_aux _ _ _ _ _ _ h
  obtain ⟨m, hm⟩ : ∃ m, (if hd l 45 then 1 else 0) = m := ⟨_, rfl⟩
  have hh := hd_take l r n 45 hlen.1 hlen.2
  rw [hm] at h1 h2 h4
  have hd0 : digN (l.drop m) ≠ 0 := fun e => h1 (.inl e)
  have hdl := digN_le (l.drop m)
  rw [List.length_drop] at hdl
  obtain ⟨p1, p2⟩ := take_parts l r m (digN (l.drop m)) (by omega)
  have hdig := digN_loc (l.drop m) r hr
  have hhd := hd_take (l.drop m) r (digN (l.drop m)) 48 (by omega) (digN_le _)
  have ht : ((l.drop m).take (digN (l.drop m)) ++ r).take (digN (l.drop m)) = (l.drop m).take (digN (l.drop m)) := by
    rw [List.take_append_of_le_length (by rw [List.length_take, List.length_drop]; omega), List.take_take, Nat.min_self]
  have key : numT (l.take n ++ r) = numT l := by
    rw [h0]
    unfold numT
    rw [hh, hm, ← h4, p2, hdig, hhd, ht]
    rw [num_mk _ _ _ _ h1 h2, ← h3]
    by_cases hs : hd l 45 = true
    · rw [hs] at hm
      simp only [if_true] at hm
      subst hm
      rw [if_pos hs, if_pos hs, p2, hdig, ht]
    · rw [Bool.not_eq_true] at hs
      rw [hs] at hm
      simp only [Bool.false_eq_true, if_false] at hm
      subst hm
      simp only [List.drop_zero] at hdig ht p2 ⊢
      rw [hs]
      simp only [Bool.false_eq_true, if_false, Nat.zero_add, hdig, ht]
  rw [key, h0]

theorem signs_let (x r : List UInt8) (hx : x ∈ signsL) : nameL (x ++ r) = 0 := by
  simp only [signsL, List.mem_cons, List.not_mem_nil, or_false] at hx
  rcases hx with rfl | rfl | rfl | rfl | rfl | rfl | rfl | rfl | rfl | rfl | rfl | rfl | rfl | rfl | rfl | rfl | rfl | rfl | rfl | rfl | rfl <;> rfl
theorem tokT_loc (l : List UInt8) (k : Int) (t : List UInt8) (v : Int) (n : Nat) (h : tokT l = .ok (k, t, v, n)) (r : List UInt8) (hr : Bnd r) : tokT (l.take n ++ r) = .ok (k, t, v, n) := by
  obtain ⟨hn, hl, _⟩ := tokT_ok l k t v n h
  cases l with
  | nil => cases h
  | cons c q =>
    unfold tokT at h
    simp only at h
    obtain ⟨m, rfl⟩ : ∃ m, n = m + 1 := ⟨n - 1, by omega⟩
    have e : (c :: q).take (m + 1) ++ r = c :: (q.take m ++ r) := rfl
    by_cases h1 : c = 34 ∨ c = 39
    · rw [if_pos h1] at h
      cases ht : txtF (q.length + 1) c q with
      | none => rw [ht] at h; cases h
      | some tn =>
        obtain ⟨t', m'⟩ := tn
        rw [ht] at h
        simp only [Except.ok.injEq, Prod.mk.injEq] at h
        obtain ⟨rfl, rfl, rfl, h4⟩ := h
        obtain rfl : m' = m := by omega
        have hm := txtF_len _ _ _ _ _ ht
        rw [e]
        unfold tokT
        simp only
        rw [if_pos h1, txtF_loc _ c q t' m' ht r _ (by rw [List.length_append, List.length_take]; omega)]
    · rw [if_neg h1] at h
      by_cases h2 : isDig c = true ∨ c = 45
      · rw [if_pos h2] at h
        cases hnu : numT (c :: q) with
        | error e' => rw [hnu] at h; cases h
        | ok vn =>
          obtain ⟨v', m'⟩ := vn
          rw [hnu] at h
          simp only [Except.ok.injEq, Prod.mk.injEq] at h
          obtain ⟨rfl, rfl, rfl, rfl⟩ := h
          have := numT_loc (c :: q) v' (m + 1) hnu r (Bnd_dig hr)
          rw [e] at this ⊢
          unfold tokT
          simp only
          rw [if_neg h1, if_pos h2, this]
      · rw [if_neg h2] at h
        by_cases h3 : 0 < nameL (c :: q)
        · rw [if_pos h3] at h
          simp only [Except.ok.injEq, Prod.mk.injEq] at h
          obtain ⟨rfl, rfl, rfl, h4⟩ := h
          have := nameL_loc (c :: q) r (Bnd_letR hr) (by omega)
          rw [h4] at this ⊢
          have ht : ((c :: q).take (m + 1) ++ r).take (m + 1) = (c :: q).take (m + 1) := by
            rw [List.take_append_of_le_length (by rw [List.length_take]; omega), List.take_take, Nat.min_self]
          rw [e] at this ht ⊢
          unfold tokT
          simp only
          rw [if_neg h1, if_neg h2, this, if_pos (by omega), ht]
        · rw [if_neg h3] at h
          cases hs : signsL.find? (fun x => (c :: q).take x.length == x) with
          | none => rw [hs] at h; cases h
          | some x =>
            rw [hs] at h
            simp only [Except.ok.injEq, Prod.mk.injEq] at h
            obtain ⟨rfl, rfl, rfl, h4⟩ := h
            have hx := List.find?_some hs
            have hm := List.mem_of_find?_eq_some hs
            have hxe : (c :: q).take x.length = x := by simpa using hx
            rw [← h4, hxe]
            have e2 : ∃ q', x ++ r = c :: q' := ⟨q.take m ++ r, by rw [← e, ← h4, hxe]⟩
            have hf := signs_loc x r hm hr
            have hz := signs_let x r hm
            obtain ⟨q', hq⟩ := e2
            rw [hq] at hf hz ⊢
            unfold tokT
            simp only
            rw [if_neg h1, if_neg h2, hz, if_neg (by omega), hf]

/- qlex: what stands behind a blank changes no token ahead of it; plain. -/

theorem Bnd_lt {r : List UInt8} (h : Bnd r) : r = [] ∨ ∃ c q, r = c :: q ∧ (c.toNat : Int) < 128 := by
  rcases h with rfl | ⟨c, q, rfl, hc⟩
  · exact .inl rfl
  · refine .inr ⟨c, q, rfl, ?_⟩
    rcases isBk_val hc with rfl | rfl | rfl | rfl <;> decide
theorem scalV_app (p r : List UInt8) (hp : p ≠ []) (h : Bnd r) : scalV (p ++ r) = scalV p := by
  rcases Bnd_lt h with rfl | ⟨c, q, rfl, hc⟩
  · rw [List.append_nil]
  · have hk : ∀ lo hi : Int, 128 ≤ lo → ¬ (lo ≤ (c.toNat : Int) ∧ (c.toNat : Int) ≤ hi) := fun lo hi h1 h2 => by omega
    match p, hp with
    | [b0], _ =>
      show scalV (b0 :: c :: q) = _
      unfold scalV
      simp only
      split
      · rfl
      split
      · rw [if_neg (by omega)]
      split
      · cases q with
        | nil => rfl
        | cons d q => simp only; rw [if_neg (fun hh => by have := hh.1; split at this <;> omega)]
      split
      · cases q with
        | nil => rfl
        | cons d q =>
          cases q with
          | nil => rfl
          | cons e q => simp only; rw [if_neg (fun hh => by have := hh.1; split at this <;> omega)]
      · rfl
    | [b0, b1], _ =>
      show scalV (b0 :: b1 :: c :: q) = _
      unfold scalV
      simp only
      split
      · rfl
      split
      · rfl
      split
      · rw [if_neg (fun hh => by have := hh.2.2.1; omega)]
      split
      · cases q with
        | nil => rfl
        | cons d q => simp only; rw [if_neg (fun hh => by have := hh.2.2.1; omega)]
      · rfl
    | [b0, b1, b2], _ =>
      show scalV (b0 :: b1 :: b2 :: c :: q) = _
      unfold scalV
      simp only
      split
      · rfl
      split
      · rfl
      split
      · rfl
      split
      · rw [if_neg (fun hh => by have := hh.2.2.2.2.1; omega)]
      · rfl
    | b0 :: b1 :: b2 :: b3 :: u, _ => rfl
theorem letL_app (p r : List UInt8) (hp : p ≠ []) (h : Bnd r) : letL (p ++ r) = letL p := by
  unfold letL; rw [scalV_app p r hp h]
theorem letR_app (p r : List UInt8) (h : Bnd r) : letR (p ++ r) = letR p := by
  cases p with
  | nil => exact Bnd_letR h
  | cons c q => unfold letR; rw [letL_app _ r (by simp) h]; rfl
theorem namF_app : ∀ (f f' : Nat) (p r : List UInt8), Bnd r → p.length ≤ f → p.length ≤ f' → namF f (p ++ r) = namF f' p
  | 0, f', p, r, hr, h, _ => by
    have : p = [] := List.eq_nil_of_length_eq_zero (by omega)
    subst this
    rw [List.nil_append, namF_zero _ _ (show letR [] = 0 from rfl), namF_zero _ _ (Bnd_letR hr)]
  | f + 1, f', p, r, hr, h, h' => by
    by_cases h0 : letR p = 0
    · rw [namF_zero _ _ h0, namF_zero _ _ (by rw [letR_app p r hr]; exact h0)]
    · have hle := letR_le p
      obtain ⟨g, rfl⟩ : ∃ g, f' = g + 1 := ⟨f' - 1, by omega⟩
      rw [namF, namF, letR_app p r hr, if_neg h0, if_neg h0, List.drop_append_of_le_length hle, namF_app f g _ r hr (by rw [List.length_drop]; omega) (by rw [List.length_drop]; omega)]
theorem nameL_app (p r : List UInt8) (hp : p ≠ []) (h : Bnd r) : nameL (p ++ r) = nameL p := by
  unfold nameL
  rw [letL_app p r hp h]
  split
  · rfl
  · rw [List.drop_append_of_le_length (letL_le p), namF_app (p ++ r).length p.length _ r h (by rw [List.length_append, List.length_drop]; omega) (by rw [List.length_drop]; omega)]
theorem digN_app : ∀ (p r : List UInt8), Bnd r → digN (p ++ r) = digN p
  | [], r, h => Bnd_dig h
  | c :: q, r, h => by
    show digN (c :: (q ++ r)) = _
    rw [digN, digN, digN_app q r h]
theorem hd_app (p r : List UInt8) (c : UInt8) (h : Bnd r) (hc : isBk c = false) : hd (p ++ r) c = hd p c := by
  cases p with
  | nil =>
    rcases h with rfl | ⟨d, q, rfl, hd'⟩
    · rfl
    · show (d == c) = false
      rw [beq_eq_false_iff_ne]
      rintro rfl
      rw [hc] at hd'; cases hd'
  | cons d q => rfl
theorem take_app (p r : List UInt8) (n : Nat) (h : n ≤ p.length) : (p ++ r).take n = p.take n := List.take_append_of_le_length h
theorem numT_app (p r : List UInt8) (h : Bnd r) : numT (p ++ r) = numT p := by
  unfold numT
  rw [hd_app p r 45 h (by decide)]
  have hm : (if hd p 45 = true then 1 else 0) ≤ p.length := by
    split
    · rename_i hh; cases p with
      | nil => cases hh
      | cons => simp
    · omega
  obtain ⟨m, he⟩ : ∃ m, (if hd p 45 = true then 1 else 0) = m := ⟨_, rfl⟩
  rw [he] at hm ⊢
  rw [List.drop_append_of_le_length hm, digN_app _ r h, hd_app _ r 48 h (by decide), take_app _ r _ (digN_le _)]
  by_cases hs : hd p 45 = true
  · rw [if_pos hs] at he ⊢
    subst he
    rw [if_pos hs, List.drop_append_of_le_length hm, digN_app _ r h, take_app _ r _ (digN_le _)]
  · rw [if_neg hs, if_neg hs, digN_app _ r h, take_app _ r _ (digN_le _)]
theorem find_congr {α : Type} {P Q : α → Bool} : ∀ (l : List α), (∀ x ∈ l, P x = Q x) → l.find? P = l.find? Q
  | [], _ => rfl
  | x :: l, h => by
    rw [List.find?_cons, List.find?_cons, h x (by simp), find_congr l (fun y hy => h y (by simp [hy]))]
theorem signs_nb : ∀ x ∈ signsL, ∀ c ∈ x, isBk c = false := by decide
theorem sign_app (p r : List UInt8) (h : Bnd r) : signsL.find? (fun x => (p ++ r).take x.length == x) = signsL.find? (fun x => p.take x.length == x) := by
  refine find_congr _ fun x hx => ?_
  by_cases hl : x.length ≤ p.length
  · rw [take_app _ _ _ hl]
  · have hlen : p.take x.length ≠ x := fun e => by have := congrArg List.length e; rw [List.length_take] at this; omega
    have h2 : (p ++ r).take x.length ≠ x := fun e => by
      rcases h with rfl | ⟨c, q, rfl, hc⟩
      · rw [List.append_nil] at e; exact hlen e
      · have hm : c ∈ x := by
          rw [← e, List.take_append]
          obtain ⟨d, hd⟩ : ∃ d, x.length - p.length = d + 1 := ⟨x.length - p.length - 1, by omega⟩
          rw [hd]; simp
        rw [signs_nb x hx c hm] at hc; cases hc
    rw [beq_eq_false_iff_ne.2 hlen, beq_eq_false_iff_ne.2 h2]
/-- With a blank behind. -/
theorem tokT_app (p r : List UInt8) (h : Bnd r) (k : Int) (t : List UInt8) (v : Int) (n : Nat) (ht : tokT p = .ok (k, t, v, n)) : tokT (p ++ r) = .ok (k, t, v, n) := by
  cases p with
  | nil => cases ht
  | cons c q =>
    show tokT (c :: (q ++ r)) = _
    unfold tokT at ht ⊢
    simp only at ht ⊢
    by_cases h1 : c = 34 ∨ c = 39
    · rw [if_pos h1] at ht ⊢
      cases hx : txtF (q.length + 1) c q with
      | none => rw [hx] at ht; cases ht
      | some tn =>
        obtain ⟨t', m⟩ := tn
        rw [hx] at ht
        have hm := txtF_len _ _ _ _ _ hx
        have := txtF_loc _ c q t' m hx (q.drop m ++ r) ((q ++ r).length + 1) (by rw [List.length_append]; omega)
        rw [← List.append_assoc, List.take_append_drop] at this
        rw [this]; exact ht
    · rw [if_neg h1] at ht ⊢
      by_cases h2 : isDig c = true ∨ c = 45
      · rw [if_pos h2] at ht ⊢
        have := numT_app (c :: q) r h
        rw [List.cons_append] at this
        rw [this]; exact ht
      · rw [if_neg h2] at ht ⊢
        have hn := nameL_app (c :: q) r (by simp) h
        have hs := sign_app (c :: q) r h
        rw [List.cons_append] at hn hs
        rw [hn, hs]
        have ht2 : (c :: (q ++ r)).take (nameL (c :: q)) = (c :: q).take (nameL (c :: q)) := take_app (c :: q) r _ (nameL_le _)
        rw [ht2]; exact ht
theorem tokT_back (p r : List UInt8) (h : Bnd r) (hp : p ≠ []) (k : Int) (t : List UInt8) (v : Int) (n : Nat) (ht : tokT (p ++ r) = .ok (k, t, v, n)) (hn' : n ≤ p.length) : tokT p = .ok (k, t, v, n) := by
  cases p with
  | nil => exact absurd rfl hp
  | cons c q =>
    rw [List.cons_append] at ht
    unfold tokT at ht ⊢
    simp only at ht ⊢
    by_cases h1 : c = 34 ∨ c = 39
    · rw [if_pos h1] at ht ⊢
      cases hx : txtF ((q ++ r).length + 1) c (q ++ r) with
      | none => rw [hx] at ht; cases ht
      | some tn =>
        obtain ⟨t', m⟩ := tn
        rw [hx] at ht
        have hmn : m + 1 = n := by simp only [Except.ok.injEq, Prod.mk.injEq] at ht; exact ht.2.2.2
        rw [List.length_cons] at hn'
        have := txtF_loc _ c (q ++ r) t' m hx (q.drop m) (q.length + 1) (by omega)
        rw [take_app _ _ _ (by omega), List.take_append_drop] at this
        rw [this]; exact ht
    · rw [if_neg h1] at ht ⊢
      by_cases h2 : isDig c = true ∨ c = 45
      · rw [if_pos h2] at ht ⊢
        have := numT_app (c :: q) r h
        rw [List.cons_append] at this
        rw [this] at ht; exact ht
      · rw [if_neg h2] at ht ⊢
        have hn := nameL_app (c :: q) r (by simp) h
        have hs := sign_app (c :: q) r h
        rw [List.cons_append] at hn hs
        rw [hn, hs] at ht
        have ht2 : (c :: (q ++ r)).take (nameL (c :: q)) = (c :: q).take (nameL (c :: q)) := take_app (c :: q) r _ (nameL_le _)
        rw [ht2] at ht; exact ht
theorem bkN_app : ∀ (p r : List UInt8), p.drop (bkN p) ≠ [] → bkN (p ++ r) = bkN p
  | [], _, h => absurd rfl h
  | c :: q, r, h => by
    show bkN (c :: (q ++ r)) = _
    unfold bkN at h ⊢
    split
    · rename_i hc
      rw [if_pos hc, List.drop_succ_cons] at h
      rw [bkN_app q r h]
    · rfl
theorem bkN_zero {u : List UInt8} (h : u.drop (bkN u) ≠ []) : bkN (u.drop (bkN u)) = 0 := by
  induction u with
  | nil => rfl
  | cons c q ih =>
    by_cases hc : isBk c = true
    · have e : bkN (c :: q) = bkN q + 1 := by rw [bkN, if_pos hc]
      rw [e, List.drop_succ_cons] at h ⊢
      exact ih h
    · have e : bkN (c :: q) = 0 := by rw [bkN, if_neg hc]
      rw [e]; exact e
theorem lexF_fuel : ∀ (f f' a : Nat) (u : List UInt8), u.length < f → u.length < f' → lexF f a u = lexF f' a u
  | 0, _, _, _, h, _ => absurd h (by omega)
  | f + 1, 0, _, _, _, h => absurd h (by omega)
  | f + 1, f' + 1, a, u, h, h' => by
    by_cases hu : u = []
    · rw [hu, lexF_nil, lexF_nil]
    · rw [lexF_step f a u hu, lexF_step f' a u hu]
      split
      · rfl
      · cases ht : tokT (u.drop (bkN u)) with
        | error e => rfl
        | ok x =>
          obtain ⟨k, t, v, n⟩ := x
          obtain ⟨hn, hl, -⟩ := tokT_ok _ k t v n ht
          simp only
          have hb := bkN_le u
          rw [List.length_drop] at hl
          rw [lexF_fuel f f' _ _ (by rw [List.length_drop, List.length_drop]; omega) (by rw [List.length_drop, List.length_drop]; omega)]
/-- What one round that goes well says. -/
theorem lexF_inv {f a : Nat} {u : List UInt8} {l : List TokD} (hu : u ≠ []) (h : lexF (f + 1) a u = .ok l) :
    ∃ k t v n r, ¬ (0 < bkN u ∧ (a = 0 ∨ u.drop (bkN u) = [])) ∧ u.drop (bkN u) ≠ [] ∧ tokT (u.drop (bkN u)) = .ok (k, t, v, n) ∧ 0 < n ∧ n ≤ (u.drop (bkN u)).length ∧ bkN u + n ≤ u.length ∧
      lexF f (a + bkN u + n) (u.drop (bkN u + n)) = .ok r ∧ l = ⟨k, t, v, a + bkN u, decide (0 < bkN u)⟩ :: r := by
  rw [lexF_step f a u hu] at h
  by_cases hc : 0 < bkN u ∧ (a = 0 ∨ u.drop (bkN u) = [])
  · rw [if_pos hc] at h; cases h
  · rw [if_neg hc] at h
    cases ht : tokT (u.drop (bkN u)) with
    | error e => rw [ht] at h; cases h
    | ok x =>
      obtain ⟨k, t, v, n⟩ := x
      obtain ⟨hn, hl, -⟩ := tokT_ok _ k t v n ht
      rw [ht] at h
      simp only at h
      have hne := rest_ne u a hu hc
      have hb := bkN_lt u hne
      cases hr : lexF f (a + bkN u + n) ((u.drop (bkN u)).drop n) with
      | error e => rw [hr] at h; cases h
      | ok r =>
        rw [hr] at h
        cases h
        rw [List.drop_drop] at hr
        exact ⟨k, t, v, n, r, hc, hne, rfl, hn, hl, by rw [List.length_drop] at hl; omega, hr, rfl⟩
theorem lexF_mk {f a : Nat} {u : List UInt8} {g : Nat} {k : Int} {t : List UInt8} {v : Int} {n : Nat} {r : List TokD} (hu : u ≠ []) (hg : bkN u = g) (hc : ¬ (0 < g ∧ (a = 0 ∨ u.drop g = []))) (ht : tokT (u.drop g) = .ok (k, t, v, n)) (hr : lexF f (a + g + n) (u.drop (g + n)) = .ok r) :
    lexF (f + 1) a u = .ok (⟨k, t, v, a + g, decide (0 < g)⟩ :: r) := by
  rw [lexF_step f a u hu, hg, if_neg hc, ht]
  simp only
  rw [List.drop_drop, hr]
/-- Two texts, the second one behind a blank. -/
theorem lexF_two (q : List UInt8) (m : List TokD) (A f2 : Nat) (hq : Bnd q) (h2 : lexF f2 A q = .ok m) (hf2 : q.length < f2) : ∀ (f a : Nat) (p : List UInt8) (l : List TokD), a + p.length = A → p.length < f → lexF f a p = .ok l → ∀ F, (p ++ q).length < F → lexF F a (p ++ q) = .ok (l ++ m)
  | 0, _, _, _, _, h, _, _, _ => absurd h (by omega)
  | f + 1, a, p, l, ha, hf, h, F, hF => by
    by_cases hp : p = []
    · subst hp
      rw [lexF_nil] at h
      cases h
      simp only [List.length_nil, Nat.add_zero] at ha
      subst ha
      simp only [List.nil_append] at hF ⊢
      rw [lexF_fuel F f2 _ _ hF hf2]; exact h2
    · obtain ⟨k, t, v, n, r, hc, hne, ht, hn, hl, hbn, hr, rfl⟩ := lexF_inv hp h
      obtain ⟨F', rfl⟩ : ∃ F', F = F' + 1 := ⟨F - 1, by omega⟩
      have hd1 : (p ++ q).drop (bkN p) = p.drop (bkN p) ++ q := List.drop_append_of_le_length (bkN_le p)
      have hd2 : (p ++ q).drop (bkN p + n) = p.drop (bkN p + n) ++ q := List.drop_append_of_le_length hbn
      have hrec := lexF_two q m A f2 hq h2 hf2 f (a + bkN p + n) (p.drop (bkN p + n)) r (by rw [List.length_drop]; omega) (by rw [List.length_drop]; omega) hr F' (by rw [List.length_append, List.length_drop]; rw [List.length_append] at hF; omega)
      exact lexF_mk (by simp [hp]) (bkN_app p q hne) (fun hh => hc ⟨hh.1, hh.2.imp id fun e => by rw [hd1] at e; exact (List.append_eq_nil_iff.1 e).1⟩) (by rw [hd1]; exact tokT_app _ q hq _ _ _ _ ht) (by rw [hd2]; exact hrec)
/-- A token so many places later. -/
def shT (d : Nat) (x : TokD) : TokD := ⟨x.kind, x.s, x.n, x.at_ + d, x.gap⟩
theorem lexF_shift (d : Nat) : ∀ (f a : Nat) (u : List UInt8) (l : List TokD), (a = 0 → bkN u = 0) → lexF f a u = .ok l → lexF f (a + d) u = .ok (l.map (shT d))
  | 0, _, _, _, _, h => by simp [lexF] at h ⊢; subst h; rfl
  | f + 1, a, u, l, h0, h => by
    by_cases hu : u = []
    · subst hu; rw [lexF_nil] at h ⊢; cases h; rfl
    · obtain ⟨k, t, v, n, r, hc, hne, ht, hn, hl, hbn, hr, rfl⟩ := lexF_inv hu h
      have hrec := lexF_shift d f (a + bkN u + n) (u.drop (bkN u + n)) r (by omega) hr
      have e := lexF_mk (f := f) (a := a + d) (r := r.map (shT d)) hu rfl (fun hh => hc ⟨hh.1, hh.2.imp (fun e => by omega) id⟩) ht (by rw [show a + d + bkN u + n = a + bkN u + n + d by omega]; exact hrec)
      rw [e, List.map_cons]
      have : a + d + bkN u = a + bkN u + d := by omega
      rw [this]; rfl
theorem lexL_inv {l : List UInt8} {m : List TokD} (h : lexL l = .ok m) : l.length ≤ 4096 ∧ m ≠ [] ∧ lexF (l.length + 1) 0 l = .ok m := by
  unfold lexL at h
  split at h
  · cases h
  · rename_i hl
    split at h
    · cases h
    · cases h
    · rename_i r hr hf
      cases h
      exact ⟨by omega, hr, hf⟩
theorem lexL_mk {l : List UInt8} {m : List TokD} (hl : l.length ≤ 4096) (hm : m ≠ []) (h : lexF (l.length + 1) 0 l = .ok m) : lexL l = .ok m := by
  unfold lexL
  rw [if_neg (by omega), h]
  cases m with
  | nil => exact absurd rfl hm
  | cons => rfl
/-- What QlexTwo puts together. -/
def twoT (d : Nat) (m : List TokD) : List TokD := m.mapIdx fun i x => ⟨x.kind, x.s, x.n, x.at_ + d, x.gap || decide (i = 0)⟩
theorem twoT_cons (d : Nat) (x : TokD) (m : List TokD) : twoT d (x :: m) = ⟨x.kind, x.s, x.n, x.at_ + d, true⟩ :: m.map (shT d) := by
  unfold twoT
  rw [List.mapIdx_cons]
  refine congr (by simp) ?_
  refine List.ext_getElem (by simp) fun i h1 h2 => ?_
  simp [shT]
theorem lex_two {s t : List UInt8} {l m : List TokD} (hs : lexL s = .ok l) (ht : lexL t = .ok m) (hlen : s.length + t.length + 1 ≤ 4096) : lexL (s ++ 32 :: t) = .ok (l ++ twoT (s.length + 1) m) := by
  obtain ⟨-, hl, hfs⟩ := lexL_inv hs
  obtain ⟨-, hm, hft⟩ := lexL_inv ht
  have hsn : s ≠ [] := by rintro rfl; rw [lexF_nil] at hfs; cases hfs; exact hl rfl
  have htn : t ≠ [] := by rintro rfl; rw [lexF_nil] at hft; cases hft; exact hm rfl
  refine lexL_mk (by simp; omega) (by simp [hl]) ?_
  refine lexF_two (32 :: t) (twoT (s.length + 1) m) s.length (t.length + 2) (.inr ⟨32, t, rfl, rfl⟩) ?_ (by simp) _ 0 s l (by omega) (Nat.lt_succ_self _) hfs _ (by simp)
  obtain ⟨k, x, v, n, r, hc, hne, htk, hn, hl2, hbn, hr, rfl⟩ := lexF_inv htn hft
  have hb0 : bkN t = 0 := Classical.byContradiction fun h => hc ⟨by omega, .inl rfl⟩
  rw [hb0] at htk hr ⊢
  rw [twoT_cons]
  have hsh := lexF_shift (s.length + 1) t.length (0 + 0 + n) (t.drop (0 + n)) r (by omega) hr
  have hb1 : bkN (32 :: t) = 1 := by rw [bkN, if_pos (by rfl), hb0]
  have hspos : 0 < s.length := List.length_pos_iff.2 hsn
  have e := lexF_mk (f := t.length + 1) (a := s.length) (u := 32 :: t) (g := 1) (k := k) (t := x) (v := v) (n := n) (r := r.map (shT (s.length + 1))) (by simp) hb1 (fun hh => hh.2.elim (fun e => by omega) (fun e => htn (by simpa using e))) (by simpa using htk)
    (by
      rw [show s.length + 1 + n = n + (s.length + 1) by omega, Nat.add_comm 1 n, List.drop_succ_cons]
      rw [Nat.zero_add n] at hsh
      rw [lexF_fuel (t.length + 1) t.length _ _ (by rw [List.length_drop]; omega) (by rw [List.length_drop]; omega), hsh])
  rw [e]
  simp

/-- Texts alike up to a blank. -/
def Alike (u v : List UInt8) : Prop := ∃ p q q', u = p ++ q ∧ v = p ++ q' ∧ Bnd q ∧ Bnd q'
theorem tokT_alike {u v : List UInt8} {k : Int} {t : List UInt8} {x : Int} {n : Nat} (h : Alike (u.drop n) v) (hn : 0 < n) (hl : n ≤ u.length) (ht : tokT u = .ok (k, t, x, n)) : tokT (u.take n ++ v) = .ok (k, t, x, n) := by
  obtain ⟨p, q, q', h1, h2, h3, h4⟩ := h
  have hu : u = (u.take n ++ p) ++ q := by rw [List.append_assoc, ← h1, List.take_append_drop]
  have hne : u.take n ++ p ≠ [] := by
    intro e
    have := congrArg List.length (List.append_eq_nil_iff.1 e).1
    rw [List.length_take, List.length_nil] at this; omega
  have hb : tokT (u.take n ++ p) = .ok (k, t, x, n) := tokT_back _ q h3 hne _ _ _ _ (by rw [← hu]; exact ht) (by rw [List.length_append, List.length_take]; omega)
  rw [h2, ← List.append_assoc]
  exact tokT_app _ q' h4 _ _ _ _ hb
/-- What QlexBlanks puts together. -/
def blkL (s : List UInt8) (b : List UInt8) : Nat → List TokD → List UInt8
  | last, [] => s.drop last
  | last, x :: r => if x.gap then (s.drop last).take (x.at_ - last) ++ (b ++ blkL s b x.at_ r) else blkL s b last r
/-- The same tokens, wherever they stand. -/
def SameT (x y : TokD) : Prop := x.kind = y.kind ∧ x.s = y.s ∧ x.n = y.n
def All2 : List TokD → List TokD → Prop
  | [], [] => True
  | x :: l, y :: m => SameT x y ∧ All2 l m
  | _, _ => False
theorem All2_len : ∀ {l m : List TokD}, All2 l m → l.length = m.length
  | [], [], _ => rfl
  | _ :: _, _ :: _, h => by rw [List.length_cons, List.length_cons, All2_len h.2]
  | [], _ :: _, h => h.elim
  | _ :: _, [], h => h.elim
theorem All2_get : ∀ {l m : List TokD}, All2 l m → ∀ (i : Nat) (x y : TokD), l[i]? = some x → m[i]? = some y → SameT x y
  | _ :: _, _ :: _, h, 0, _, _, h1, h2 => by cases h1; cases h2; exact h.1
  | _ :: _, _ :: _, h, i + 1, x, y, h1, h2 => All2_get h.2 i x y (by simpa using h1) (by simpa using h2)
  | [], _, _, _, _, _, h1, _ => by simp at h1
  | _ :: _, [], h, _, _, _, _, _ => h.elim
theorem bkN_rep (b u : List UInt8) (hb : ∀ c ∈ b, isBk c = true) : bkN (b ++ u) = b.length + bkN u := by
  induction b with
  | nil => simp
  | cons c q ih =>
    show bkN (c :: (q ++ u)) = _
    rw [bkN, if_pos (hb c (by simp)), ih (fun d hd => hb d (by simp [hd])), List.length_cons]; omega
theorem bkN_take (u : List UInt8) : ∀ c ∈ u.take (bkN u), isBk c = true := by
  induction u with
  | nil => simp [bkN]
  | cons c q ih =>
    unfold bkN
    split
    · rename_i hc
      intro d hd
      rw [List.take_succ_cons, List.mem_cons] at hd
      rcases hd with rfl | hd
      · exact hc
      · exact ih d hd
    · simp
theorem bkN_ne {u : List UInt8} (h : bkN u = 0) {v : List UInt8} {n : Nat} (hn : 0 < n) (hu : u ≠ []) : bkN (u.take n ++ v) = 0 := by
  obtain ⟨n, rfl⟩ : ∃ m, n = m + 1 := ⟨n - 1, by omega⟩
  cases u with
  | nil => exact absurd rfl hu
  | cons c q =>
    show bkN (c :: (q.take n ++ v)) = 0
    unfold bkN at h ⊢
    split at h
    · omega
    · rename_i hc; rw [if_neg hc]
theorem lexF_blank (s b : List UInt8) (hb : ∀ c ∈ b, isBk c = true) : ∀ (f a last : Nat) (toks : List TokD), last ≤ a → a ≤ s.length → s.length - a < f → lexF f a (s.drop a) = .ok toks →
    ∃ X, blkL s b last toks = (s.drop last).take (a - last) ++ X ∧ Alike (s.drop a) X ∧ X.length ≤ s.length - a + b.length * toks.length ∧ ∀ (a' F : Nat), (a = 0 → a' = 0) → (a' = 0 → a = 0) → X.length < F → ∃ toks', lexF F a' X = .ok toks' ∧ All2 toks toks'
  | 0, _, _, _, _, _, h, _ => absurd h (by omega)
  | f + 1, a, last, toks, hla, has, hf, h => by
    by_cases hu : s.drop a = []
    · have hal : a = s.length := by have := congrArg List.length hu; rw [List.length_drop, List.length_nil] at this; omega
      rw [hu, lexF_nil] at h
      cases h
      refine ⟨[], ?_, ⟨[], [], [], by rw [hu]; rfl, rfl, .inl rfl, .inl rfl⟩, by simp, fun a' F _ _ _ => ⟨[], by rw [lexF_nil], trivial⟩⟩
      rw [blkL, List.append_nil, List.take_of_length_le (by rw [List.length_drop]; omega)]
    · obtain ⟨k, t, v, n, r, hc, hne, ht, hn, hl, hbn, hr, rfl⟩ := lexF_inv hu h
      obtain ⟨g, hg⟩ : ∃ g, bkN (s.drop a) = g := ⟨_, rfl⟩
      rw [hg] at hc hne ht hl hbn hr ⊢
      rw [List.length_drop] at hbn
      rw [List.drop_drop] at hne ht hl hr
      have hrd : s.drop (a + (g + n)) = s.drop (a + g + n) := by rw [Nat.add_assoc]
      rw [hrd] at hr
      rw [List.drop_drop] at hc
      by_cases hg0 : g = 0
      · subst hg0
        obtain ⟨X, hX, hA, hXl, hL⟩ := lexF_blank s b hb f (a + 0 + n) last r (by omega) (by omega) (by omega) hr
        rw [Nat.add_zero] at hX hA hL ht hne hl hXl
        refine ⟨(s.drop a).take n ++ X, ?_, ?_, ?_, ?_⟩
        · rw [blkL, if_neg (by simp), hX, ← List.append_assoc]
          congr 1
          rw [show a + n - last = (a - last) + n by omega, List.take_add, List.drop_drop, show last + (a - last) = a by omega]
        · obtain ⟨p, q, q', h1, h2, h3, h4⟩ := hA
          refine ⟨(s.drop a).take n ++ p, q, q', ?_, by rw [h2, List.append_assoc], h3, h4⟩
          rw [List.append_assoc, ← h1, ← List.drop_drop, List.take_append_drop]
        · rw [List.length_append, List.length_take, List.length_cons, Nat.mul_succ]; omega
        · intro a' F h0 h0' hF
          rw [List.length_append, List.length_take, Nat.min_eq_left hl] at hF
          obtain ⟨F', rfl⟩ : ∃ F', F = F' + 1 := ⟨F - 1, by omega⟩
          obtain ⟨toks', hl1, hl2⟩ := hL (a' + 0 + n) F' (by omega) (by omega) (by omega)
          refine ⟨⟨k, t, v, a' + 0, decide (0 < 0)⟩ :: toks', ?_, ⟨⟨rfl, rfl, rfl⟩, hl2⟩⟩
          have htl : ((s.drop a).take n).length = n := by rw [List.length_take, Nat.min_eq_left hl]
          have htk := tokT_alike (v := X) (by rw [List.drop_drop]; exact hA) hn hl ht
          exact lexF_mk (by intro e; have := congrArg List.length (List.append_eq_nil_iff.1 e).1; rw [htl] at this; simp at this; omega) (bkN_ne hg hn hu) (by omega) (by simpa using htk)
            (by rw [Nat.zero_add, List.drop_left' htl]; exact hl1)
      · have ha0 : 0 < a := Nat.pos_of_ne_zero fun e => hc ⟨by omega, .inl e⟩
        obtain ⟨X, hX, hA, hXl, hL⟩ := lexF_blank s b hb f (a + g + n) (a + g) r (by omega) (by omega) (by omega) hr
        have hbl := bkN_take (s.drop a)
        rw [hg] at hbl
        have htg : ((s.drop a).take g).length = g := by rw [List.length_take, List.length_drop]; omega
        have htl : ((s.drop (a + g)).take n).length = n := by rw [List.length_take, Nat.min_eq_left hl]
        rw [show a + g + n - (a + g) = n by omega] at hX
        have hall : ∀ c ∈ (s.drop a).take g ++ b, isBk c = true := by
          intro c hc'; rcases List.mem_append.1 hc' with h1 | h1
          · exact hbl c h1
          · exact hb c h1
        refine ⟨((s.drop a).take g ++ b) ++ ((s.drop (a + g)).take n ++ X), ?_, ?_, ?_, ?_⟩
        · have ht' : (s.drop last).take (a + g - last) = (s.drop last).take (a - last) ++ (s.drop a).take g := by
            rw [show a + g - last = (a - last) + g by omega, List.take_add, List.drop_drop, show last + (a - last) = a by omega]
          rw [blkL, if_pos (by simp; omega), hX, ht']
          simp only [List.append_assoc]
        · obtain ⟨g', rfl⟩ : ∃ g', g = g' + 1 := ⟨g - 1, by omega⟩
          obtain ⟨c, q, hcq⟩ : ∃ c q, s.drop a = c :: q := by
            cases hh : s.drop a with
            | nil => exact absurd hh hu
            | cons c q => exact ⟨c, q, rfl⟩
          have hck : isBk c = true := hbl c (by rw [hcq]; simp)
          exact ⟨[], s.drop a, _, rfl, rfl, .inr ⟨c, q, hcq, hck⟩, .inr ⟨c, _, by rw [hcq, List.take_succ_cons]; rfl, hck⟩⟩
        · rw [List.length_append, List.length_append, List.length_append, htg, htl, List.length_cons, Nat.mul_succ]; omega
        · intro a' F h0 h0' hF
          rw [List.length_append, List.length_append, List.length_append, htg, htl] at hF
          obtain ⟨F', rfl⟩ : ∃ F', F = F' + 1 := ⟨F - 1, by omega⟩
          have hl2 : ((s.drop a).take g ++ b).length = g + b.length := by rw [List.length_append, htg]
          obtain ⟨toks', hl1, hls⟩ := hL (a' + (g + b.length) + n) F' (by omega) (by omega) (by omega)
          refine ⟨⟨k, t, v, a' + (g + b.length), decide (0 < g + b.length)⟩ :: toks', ?_, ⟨⟨rfl, rfl, rfl⟩, hls⟩⟩
          have htk := tokT_alike (v := X) (by rw [List.drop_drop]; exact hA) hn hl ht
          have hbk : bkN (((s.drop a).take g ++ b) ++ ((s.drop (a + g)).take n ++ X)) = g + b.length := by
            rw [bkN_rep _ _ hall, hl2]
            have hz : bkN (s.drop (a + g)) = 0 := by have := bkN_zero (u := s.drop a) (by rw [hg, List.drop_drop]; exact hne); rw [hg, List.drop_drop] at this; exact this
            rw [bkN_ne hz hn hne]
            rfl
          have hxn : (s.drop (a + g)).take n ++ X ≠ [] := by intro e; have := congrArg List.length (List.append_eq_nil_iff.1 e).1; rw [htl] at this; simp at this; omega
          exact lexF_mk (by intro e; exact hxn (List.append_eq_nil_iff.1 e).2) hbk (fun hh => hh.2.elim (fun e => by omega) (fun e => by rw [List.drop_left' hl2] at e; exact hxn e)) (by rw [List.drop_left' hl2]; exact htk)
            (by rw [← List.drop_drop, List.drop_left' hl2, List.drop_left' htl]; exact hl1)
theorem lex_blank {s b : List UInt8} {l : List TokD} (hs : lexL s = .ok l) (hb : ∀ c ∈ b, isBk c = true) (hlen : s.length + b.length * l.length ≤ 4096) : ∃ m, lexL (blkL s b 0 l) = .ok m ∧ All2 l m := by
  obtain ⟨-, hl, hf⟩ := lexL_inv hs
  obtain ⟨X, hX, -, hXl, hL⟩ := lexF_blank s b hb (s.length + 1) 0 0 l (Nat.le_refl _) (by omega) (by omega) hf
  rw [Nat.sub_self, List.take_zero, List.nil_append] at hX
  rw [hX]
  obtain ⟨m, h1, h2⟩ := hL 0 (X.length + 1) (fun _ => rfl) (fun _ => rfl) (by omega)
  refine ⟨m, lexL_mk (by omega) ?_ h1, h2⟩
  rintro rfl
  have := All2_len h2
  exact hl (List.eq_nil_of_length_eq_zero this)

/- Bytes, characters, numbers, names, tokens: plain (no word of a dump). -/
theorem all_u8 {P : UInt8 → Prop} (h : ∀ n : Fin 256, P (UInt8.ofNat n.val)) (c : UInt8) : P c := by
  have := h ⟨c.toNat, c.toNat_lt⟩
  simpa using this
/-- The rest of four digits. -/
def hexF : Nat → List UInt8 → Int → Option Int
  | 0, _, n => some n
  | _ + 1, [], _ => none
  | f + 1, c :: r, n => match hexV c with | some d => hexF f r (n * 16 + d) | none => none
theorem unit_hexF (l : List UInt8) (h : 4 ≤ l.length) : unitV l = hexF 4 l 0 := by
  match l, h with
  | a :: b :: c :: d :: r, _ =>
    simp only [unitV, hexF]
    cases hexV a <;> simp only [Option.bind_none, Option.bind_some]
    cases hexV b <;> simp only [Option.bind_none, Option.bind_some]
    cases hexV c <;> simp only [Option.bind_none, Option.bind_some]
    cases hexV d <;> simp
theorem unit_short (l : List UInt8) (h : l.length < 4) : unitV l = none := by
  match l, h with
  | [], _ => rfl
  | [_], _ => rfl
  | [_, _], _ => rfl
  | [_, _, _], _ => rfl
  | _ :: _ :: _ :: _ :: _, h => simp at h; omega
def uval (o : Option Int) : Int := o.getD (-1)
/-- The character behind 5c and u. -/
def unitsV (r2 : List UInt8) : Option (Int × Nat) :=
  match unitV r2 with
  | none => none
  | some a =>
    if a < 55296 ∨ 57343 < a then some (a, 6)
    else if 56320 ≤ a then none
    else if hd (r2.drop 4) 92 && hd (r2.drop 5) 117 then
      (match unitV (r2.drop 6) with
        | none => none
        | some b => if 56320 ≤ b ∧ b ≤ 57343 then some (65536 + (a - 55296) * 1024 + (b - 56320), 12) else none)
    else none
theorem hexV_bd {c : UInt8} {d : Int} (h : hexV c = some d) : 0 ≤ d ∧ d < 16 := by
  unfold hexV at h
  split at h
  · cases h; omega
  · split at h
    · cases h; omega
    · split at h
      · cases h; omega
      · cases h
theorem hexF_bd (f : Nat) (l : List UInt8) (n a : Int) (h : hexF f l n = some a) (h0 : 0 ≤ n) (hf : f ≤ 4) (h1 : n < 16 ^ (4 - f)) : 0 ≤ a ∧ a < 65536 := by
  induction f generalizing l n with
  | zero => simp [hexF] at h; omega
  | succ f ih =>
    cases l with
    | nil => simp [hexF] at h
    | cons c r =>
      rw [hexF] at h
      cases hx : hexV c with
      | none => rw [hx] at h; cases h
      | some d =>
        rw [hx] at h
        have hb := hexV_bd hx
        refine ih r (n * 16 + d) h (by omega) (by omega) ?_
        have : (16 : Int) ^ (4 - f) = 16 ^ (4 - (f + 1)) * 16 := by rw [show 4 - f = 4 - (f + 1) + 1 by omega]; exact Int.pow_succ _ _
        omega
theorem unitV_bd {l : List UInt8} {a : Int} (h : unitV l = some a) : 0 ≤ a ∧ a < 65536 := by
  by_cases hl : 4 ≤ l.length
  · rw [unit_hexF l hl] at h; exact hexF_bd 4 l 0 a h (by omega) (by omega) (by simp)
  · rw [unit_short l (by omega)] at h; cases h
theorem unitV_len {l : List UInt8} {a : Int} (h : unitV l = some a) : 4 ≤ l.length := by
  rcases Nat.lt_or_ge l.length 4 with hl | hl
  · rw [unit_short l hl] at h; cases h
  · exact hl
theorem charT_ctl {s : ByteArray} {p : Nat} {mark : UInt8} (h : p < s.size) (h1 : (s[p].toNat : Int) < 32) : charT mark (dr s p) = none := by
  rw [dr, drop_cons s p h]; unfold charT; simp only; rw [if_pos (by omega)]
theorem charT_pl {s : ByteArray} {p : Nat} {mark : UInt8} (h : p < s.size) (h1 : ¬ (s[p].toNat : Int) < 32) (h2 : (s[p].toNat : Int) ≠ 92) : charT mark (dr s p) = if (scalV (dr s p)).2 = 0 then none else some ((scalV (dr s p)).1, (scalV (dr s p)).2.toNat) := by
  have e : dr s p = s[p] :: dr s (p + 1) := drop_cons s p h
  rw [e]; unfold charT; simp only
  rw [if_neg (by omega), if_pos (by intro c; apply h2; rw [c]; rfl)]
theorem charT_end {s : ByteArray} {p : Nat} {mark : UInt8} (h : p < s.size) (h2 : (s[p].toNat : Int) = 92) (h3 : s.size ≤ p + 1) : charT mark (dr s p) = none := by
  have hc : s[p] = 92 := by rw [← UInt8.toNat_inj]; simp; omega
  rw [dr, drop_cons s p h, drop_nil s (p + 1) h3]; unfold charT; simp only
  rw [if_neg (by omega), if_neg (by rw [hc]; simp)]
theorem charT_u {s : ByteArray} {p : Nat} {mark : UInt8} (h : p + 1 < s.size) (h2 : (s[p].toNat : Int) = 92) (h3 : (s[p + 1].toNat : Int) = 117) : charT mark (dr s p) = unitsV (dr s (p + 2)) := by
  have hc : s[p] = 92 := by rw [← UInt8.toNat_inj]; simp; omega
  have hc2 : s[p + 1] = 117 := by rw [← UInt8.toNat_inj]; simp; omega
  rw [dr, drop_cons s p (by omega), drop_cons s (p + 1) h]; unfold charT; simp only
  rw [if_neg (by omega), if_neg (by rw [hc]; simp), if_pos hc2]; rfl
theorem charT_e {s : ByteArray} {p : Nat} {mark : UInt8} (h : p + 1 < s.size) (h2 : (s[p].toNat : Int) = 92) (h3 : (s[p + 1].toNat : Int) ≠ 117) : charT mark (dr s p) = (escV mark s[p + 1]).map (·, 2) := by
  have hc : s[p] = 92 := by rw [← UInt8.toNat_inj]; simp; omega
  rw [dr, drop_cons s p (by omega), drop_cons s (p + 1) h]; unfold charT; simp only
  rw [if_neg (by omega), if_neg (by rw [hc]; simp), if_neg (by intro c; apply h3; rw [c]; rfl)]
/-- The bytes of a scalar. -/
def putI (c : Int) : List Int :=
  if c < 0 ∨ 1114111 < c ∨ (55296 ≤ c ∧ c ≤ 57343) then []
  else if c < 128 then [c]
  else if c < 2048 then [192 + c / 64, 128 + c % 64]
  else if c < 65536 then [224 + c / 4096, 128 + c / 64 % 64, 128 + c % 64]
  else [240 + c / 262144, 128 + c / 4096 % 64, 128 + c / 64 % 64, 128 + c % 64]
/-- A scalar that Put writes. -/
def okS (c : Int) : Prop := 0 ≤ c ∧ c ≤ 1114111 ∧ (c < 55296 ∨ 57343 < c)
def oS (x : Int × Int) : Prop := okS x.1
theorem okS_no : oS (0, 0) := by unfold oS okS; simp
theorem scalV_val (l : List UInt8) : okS (scalV l).1 := by
  show oS (scalV l)
  cases l with
  | nil => exact okS_no
  | cons b0 r =>
    unfold scalV
    refine ite_P oS (fun h => by unfold oS okS; simp; omega) (fun h => ?_)
    refine ite_P oS (fun h => ?_) (fun h => ?_)
    · cases r with
      | nil => exact okS_no
      | cons b1 r => exact ite_P oS (fun h => by unfold oS okS; simp; omega) (fun h => okS_no)
    · refine ite_P oS (fun h => ?_) (fun h => ?_)
      · match r with
        | [] => exact okS_no
        | [_] => exact okS_no
        | b1 :: b2 :: r =>
          refine ite_P oS (fun h2 => ?_) (fun h => okS_no)
          have k1 := h2.1
          have k2 := h2.2.1
          split at k1 <;> split at k2 <;> (unfold oS okS; simp only; omega)
      · refine ite_P oS (fun h => ?_) (fun h => okS_no)
        match r with
        | [] => exact okS_no
        | [_] => exact okS_no
        | [_, _] => exact okS_no
        | b1 :: b2 :: b3 :: r =>
          refine ite_P oS (fun h2 => ?_) (fun h => okS_no)
          have k1 := h2.1
          have k2 := h2.2.1
          split at k1 <;> split at k2 <;> (unfold oS okS; simp only; omega)
theorem escV_val (m c : UInt8) (x : Int) (h : escV m c = some x) : okS x := by
  have hc := c.toNat_lt
  unfold okS
  unfold escV at h
  (repeat' split at h) <;> simp only [Option.some.injEq, reduceCtorEq] at h <;> omega
theorem charT_val (mark : UInt8) (l : List UInt8) (x : Int) (n : Nat) (h : charT mark l = some (x, n)) : okS x := by
  unfold charT at h
  match l with
  | [] => simp at h
  | c :: r =>
    simp only at h
    split at h
    · cases h
    · split at h
      · have hs := scalV_val (c :: r)
        split at h
        · cases h
        · simp only [Option.some.injEq, Prod.mk.injEq] at h
          rw [← h.1]; exact hs
      · match r with
        | [] => simp at h
        | d :: r2 =>
          simp only at h
          split at h
          · revert h
            cases hu : unitV r2 with
            | none => intro h; cases h
            | some a =>
              have hb := unitV_bd hu
              simp only
              intro h
              split at h
              · simp only [Option.some.injEq, Prod.mk.injEq] at h; unfold okS; omega
              · split at h
                · cases h
                · split at h
                  · revert h
                    cases hv : unitV (r2.drop 6) with
                    | none => intro h; cases h
                    | some b =>
                      simp only
                      intro h
                      split at h
                      · simp only [Option.some.injEq, Prod.mk.injEq] at h; unfold okS; omega
                      · cases h
                  · cases h
          · cases he : escV mark d with
            | none => rw [he] at h; cases h
            | some e =>
              rw [he] at h; simp only [Option.map_some, Option.some.injEq, Prod.mk.injEq] at h
              rw [← h.1]; exact escV_val _ _ _ he
theorem put_val (c : Int) (h : okS c) : strOfNums (putI c) = bs (putV c) := by
  unfold okS at h
  apply bs_of
  rw [strOfNums_data]
  unfold putI putV
  rw [if_neg (by omega)]
  (repeat' split) <;> rfl
theorem putV_len (c : Int) : (putV c).length ≤ 4 := by unfold putV; (repeat' split) <;> simp
def digB (c : Int) : Bool := decide (48 ≤ c) && decide (c ≤ 57)
theorem digB_eq (c : UInt8) : digB (c.toNat : Int) = isDig c := by
  rw [Bool.eq_iff_iff, dig_int]; simp [digB]
theorem dig_step {s : ByteArray} {p : Nat} (h : p < s.size) (hd : digB (s[p].toNat : Int) = true) : digN (dr s p) = digN (dr s (p + 1)) + 1 := by
  rw [digB_eq] at hd
  unfold dr; rw [drop_cons s p h, digN, if_pos hd]
theorem dig_stop {s : ByteArray} {p : Nat} (h : ∀ h : p < s.size, digB (s[p].toNat : Int) = false) : digN (dr s p) = 0 := by
  by_cases hp : p < s.size
  · have := h hp
    rw [digB_eq] at this
    unfold dr; rw [drop_cons s p hp, digN, this]; rfl
  · unfold dr; rw [drop_nil s p (by omega)]; rfl
theorem letR_nil : letR [] = 0 := by decide
theorem namF_stop (f : Nat) (l : List UInt8) (h : letR l = 0) : namF f l = 0 := by
  cases f with
  | zero => rfl
  | succ f => rw [namF, if_pos h]
theorem namF_go (f : Nat) (l : List UInt8) (m : Nat) (h : letR l = m) (h0 : m ≠ 0) : namF (f + 1) l = m + namF f (l.drop m) := by rw [namF, if_neg (by omega), h]
theorem numV_snoc (l : List UInt8) (c : UInt8) : numV (l ++ [c]) = capI (numV l) c := by simp [numV, List.foldl_append]
theorem capI_bd (a : Int) (c : UInt8) (h0 : 0 ≤ a) (h : 48 ≤ (c.toNat : Int)) : 0 ≤ capI a c ∧ capI a c ≤ 9007199254740992 := by unfold capI; omega
theorem take_snoc (s : ByteArray) (k : Nat) (h : k < s.size) : s.data.toList.take (k + 1) = s.data.toList.take k ++ [s[k]] := by
  rw [List.take_succ_eq_append_getElem (by simpa using h)]; rfl
theorem dr_snoc (s : ByteArray) (a p : Nat) (ha : a ≤ p) (h : p < s.size) : (dr s a).take (p + 1 - a) = (dr s a).take (p - a) ++ [s[p]] := by
  have e : p + 1 - a = (p - a) + 1 := by omega
  have hl : p - a < (dr s a).length := by unfold dr; rw [List.length_drop, len_toList]; omega
  rw [e, List.take_succ_eq_append_getElem hl]
  congr 2
  show (s.data.toList.drop a)[p - a]'(by rw [List.length_drop, len_toList]; omega) = s[p]
  rw [List.getElem_drop]
  have : a + (p - a) = p := by omega
  simp only [this]; rfl
theorem dig_le (s : ByteArray) (a p : Nat) (h1 : a ≤ p) (h2 : p ≤ a + digN (dr s a)) : a + digN (dr s a) = p + digN (dr s p) := by
  induction p with
  | zero => obtain rfl : a = 0 := by omega
            rfl
  | succ p ih =>
    by_cases e : a = p + 1
    · rw [e]
    · have h3 := ih (by omega) (by omega)
      by_cases hp : p < s.size
      · cases hb : digB (s[p].toNat : Int) with
        | true => have := dig_step hp hb; omega
        | false => have := dig_stop (s := s) (p := p) (fun _ => hb); omega
      · have := dig_stop (s := s) (p := p) (fun h => absurd h hp); omega
theorem dig_at (s : ByteArray) (a p : Nat) (h1 : a ≤ p) (h2 : p < a + digN (dr s a)) : ∃ h : p < s.size, digB (s[p].toNat : Int) = true := by
  have h3 := dig_le s a p h1 (by omega)
  by_cases hp : p < s.size
  · refine ⟨hp, ?_⟩
    cases hb : digB (s[p].toNat : Int) with
    | true => rfl
    | false => have := dig_stop (s := s) (p := p) (fun _ => hb); omega
  · have := dig_stop (s := s) (p := p) (fun h => absurd h hp); omega
theorem dig_end (s : ByteArray) (a p : Nat) (h1 : p = a + digN (dr s a)) (hp : p < s.size) : digB (s[p].toNat : Int) = false := by
  have h3 := dig_le s a p (by omega) (by omega)
  cases hb : digB (s[p].toNat : Int) with
  | true => have := dig_step hp hb; omega
  | false => rfl
theorem digB_bd {c : Int} (h : digB c = true) : 48 ≤ c ∧ c ≤ 57 := by unfold digB at h; simpa using h
/-- The number's law, by its parts. -/
theorem numT_eq (l : List UInt8) (a D : Nat) (b : Bool) (hb : hd l 45 = b) (ha : a = if b then 1 else 0) (hD : digN (l.drop a) = D) :
    numT l = if D = 0 ∨ (hd (l.drop a) 48 = true ∧ (b = true ∨ 1 < D)) then .error 3 else if numV ((l.drop a).take D) = 9007199254740992 then .error 6 else .ok (if b then - numV ((l.drop a).take D) else numV ((l.drop a).take D), a + D) := by
  subst ha
  unfold numT
  rw [hb, hD]
  cases b <;> simp only [Bool.false_eq_true, if_true, if_false, List.drop_zero] at * <;> rw [hD]
theorem numT_t (s : ByteArray) (h : hd s.data.toList 45 = true) :
    numT s.data.toList = if digN (dr s 1) = 0 ∨ hd (dr s 1) 48 = true then .error 3 else if numV ((dr s 1).take (digN (dr s 1))) = 9007199254740992 then .error 6 else .ok (- numV ((dr s 1).take (digN (dr s 1))), 1 + digN (dr s 1)) := by
  rw [numT_eq s.data.toList 1 (digN (dr s 1)) true h rfl rfl]; simp only [true_or, and_true, if_true]; rfl
theorem numT_f (s : ByteArray) (h : hd s.data.toList 45 = false) :
    numT s.data.toList = if digN (dr s 0) = 0 ∨ (hd (dr s 0) 48 = true ∧ 1 < digN (dr s 0)) then .error 3 else if numV ((dr s 0).take (digN (dr s 0))) = 9007199254740992 then .error 6 else .ok (numV ((dr s 0).take (digN (dr s 0))), 0 + digN (dr s 0)) := by
  rw [numT_eq s.data.toList 0 (digN (dr s 0)) false h rfl rfl]; simp only [Bool.false_eq_true, false_or, if_false]; rfl
/-- Does it begin with p? -/
def preB (l p : List UInt8) : Bool := l.take p.length == p
theorem preB_eq (l p : List UInt8) : p.isPrefixOf l = preB l p := by
  rw [Bool.eq_iff_iff, List.isPrefixOf_iff_prefix, List.prefix_iff_eq_take, preB, beq_iff_eq, eq_comm]
theorem preB_two (l : List UInt8) (c d : UInt8) : preB l [c, d] = (hd l c && hd (l.drop 1) d) := by
  unfold preB hd
  match l with
  | [] => rfl
  | [x] => cases x == c <;> simp
  | x :: y :: r => simp
theorem preB_one (l : List UInt8) (c : UInt8) : preB l [c] = hd l c := by
  unfold preB hd; cases l with
  | nil => rfl
  | cons x r => simp
theorem sg_len : signsL.length = 21 := rfl
theorem find_from (l : List UInt8) (i : Nat) (h : i < 21) (hp : preB l (signsL[i]'(by rw [sg_len]; exact h)) = true) (hn : ∀ j (hj : j < 21), j < i → preB l (signsL[j]'(by rw [sg_len]; exact hj)) = false) :
    signsL.find? (fun x => l.take x.length == x) = some (signsL[i]'(by rw [sg_len]; exact h)) := by
  rw [List.find?_eq_some_iff_getElem]
  exact ⟨hp, i, by rw [sg_len]; exact h, rfl, fun j hj => by have := hn j (by omega) hj; unfold preB at this; simp only [Bool.not_eq_true']; exact this⟩
theorem find_no (l : List UInt8) (hn : ∀ j (hj : j < 21), preB l (signsL[j]'(by rw [sg_len]; exact hj)) = false) :
    signsL.find? (fun x => l.take x.length == x) = none := by
  rw [List.find?_eq_none]
  intro x hx
  obtain ⟨j, hj, rfl⟩ := List.getElem_of_mem hx
  have := hn j (by rw [sg_len] at hj; exact hj)
  unfold preB at this; simp [this]
theorem list_0 (s : ByteArray) (h : 0 < s.size) : s.data.toList = s[0] :: dr s 1 := by
  have := drop_cons s 0 h
  rw [List.drop_zero] at this; exact this
theorem tokT_str (s : ByteArray) (h : 0 < s.size) (hc : s[0] = 34 ∨ s[0] = 39) : tokT s.data.toList = match txtF s.size s[0] (dr s 1) with | some (t, n) => .ok (4, t, 0, n + 1) | none => .error 3 := by
  rw [list_0 s h]; unfold tokT; simp only; rw [if_pos hc, show (dr s 1).length + 1 = s.size by unfold dr; rw [List.length_drop, len_toList]; omega]; try rfl
theorem tokT_num (s : ByteArray) (h : 0 < s.size) (hc : ¬ (s[0] = 34 ∨ s[0] = 39)) (hd : isDig s[0] = true ∨ s[0] = 45) : tokT s.data.toList = match numT s.data.toList with | .ok (v, n) => .ok (3, [], v, n) | .error e => .error e := by
  rw [list_0 s h]; unfold tokT; simp only; rw [if_neg hc, if_pos hd]; try rfl
theorem tokT_nam (s : ByteArray) (h : 0 < s.size) (hc : ¬ (s[0] = 34 ∨ s[0] = 39)) (hd : ¬ (isDig s[0] = true ∨ s[0] = 45)) (hn : 0 < nameL s.data.toList) : tokT s.data.toList = .ok (2, s.data.toList.take (nameL s.data.toList), 0, nameL s.data.toList) := by
  rw [list_0 s h] at hn ⊢; unfold tokT; simp only; rw [if_neg hc, if_neg hd, if_pos hn]
theorem tokT_sgn (s : ByteArray) (h : 0 < s.size) (hc : ¬ (s[0] = 34 ∨ s[0] = 39)) (hd : ¬ (isDig s[0] = true ∨ s[0] = 45)) (hn : nameL s.data.toList = 0) : tokT s.data.toList = match signsL.find? (fun x => s.data.toList.take x.length == x) with | some x => .ok (1, x, 0, x.length) | none => .error 3 := by
  rw [list_0 s h] at hn ⊢; unfold tokT; simp only; rw [if_neg hc, if_neg hd, if_neg (by omega)]; try rfl

/- Tokens in memory, Lex's laws step by step (words of the dump: types alone). -/
def sgC : List Value := signsL.map fun l => .string (bs l)
def sgA : Array Value := sgC.toArray
theorem sgA_get (i : Nat) (h : i < 21) : sgA[i]? = some (.string (bs (signsL[i]'(by rw [sg_len]; exact h)))) := by
  unfold sgA sgC
  rw [List.getElem?_toArray, List.getElem?_map, List.getElem?_eq_getElem (by rw [sg_len]; exact h)]; rfl
theorem u8_ne {c : UInt8} {n : Nat} (h : ¬ c = UInt8.ofNat n) (hn : n < 256) : ((c.toNat : Int) == (n : Int)) = false := by
  rw [beq_eq_false_iff_ne]; intro e; apply h; rw [← UInt8.toNat_inj]; simp; omega
theorem bel_set5 {w w2 : World} {u0 u1 u2 u3 u4 : Value} {o : Obj} (h : Bel (w.alloc o).heap.size (w.alloc o) w2) :
    Bel w.heap.size w (((((w2.setCell ⟨w.heap.size, 0, none⟩ u0).setCell ⟨w.heap.size, 1, none⟩ u1).setCell ⟨w.heap.size, 2, none⟩ u2).setCell ⟨w.heap.size, 3, none⟩ u3).setCell ⟨w.heap.size, 4, none⟩ u4) := by
  have h1 : Bel w.heap.size w w2 := ((Bel.refl w.heap.size w).alloc (Nat.le_refl _) _).trans (h.mono (show w.heap.size ≤ _ by simp))
  exact ((((h1.setCell (Nat.le_refl _) _).setCell (Nat.le_refl _) _).setCell (Nat.le_refl _) _).setCell (Nat.le_refl _) _).setCell (Nat.le_refl _) _
theorem Blk.new1 (w : World) (o : Obj) (t : TypeId) (cs : Array Value) : Blk ((w.alloc o).alloc (.cells cs t)) (w.heap.size + 1) t cs := by
  have := Blk.new (w.alloc o) t cs; simpa using this
theorem bel_lit {w : World} {o : Obj} : Bel w.heap.size w (w.alloc o) := (Bel.refl w.heap.size w).alloc (Nat.le_refl _) _
theorem bel_lit2 {w : World} {o o2 : Obj} : Bel w.heap.size w ((w.alloc o).alloc o2) := bel_lit.alloc (by simp) _
theorem Blk.two {w : World} {g : Nat} {t : TypeId} {a b : Value} (h : Blk w g t #[a, b]) : g < w.heap.size ∧ (w.cell? ⟨g, 0, none⟩ = some a ∧ w.cell? ⟨g, 1, none⟩ = some b) ∧ w.frozen? ⟨g, 0, none⟩ = false ∧ w.frozen? ⟨g, 1, none⟩ = false :=
  ⟨h.lt, ⟨h.cell 0, h.cell 1⟩, h.frozen 0, h.frozen 1⟩
def tokC (x : TokD) : List Value := [.int .i64 x.kind, .string (bs x.s), .int .i64 x.n, .int .i64 (x.at_ : Nat), .bool x.gap]
theorem tokC_len (x : TokD) : (tokC x).length = 5 := rfl
theorem tok_one (l : List TokD) : ∀ u ∈ l.flatMap tokC, u.oneCell' = true := by
  intro u hu
  obtain ⟨x, _, hx⟩ := List.mem_flatMap.1 hu
  simp [tokC] at hx
  rcases hx with rfl | rfl | rfl | rfl | rfl <;> rfl
theorem info_tok : (Tryd.prog.info? 30).map (fun i => (i.zero, i.size, i.bytes)) = some (some (.agg #[.int .i64 0, .string ⟨#[]⟩, .int .i64 0, .int .i64 0, .bool false]), 5, 48) := by kernel_rfl
/-- The tokens so far, the fault's cell. -/
def LX (w wr : World) (v : Value) (toks : List TokD) : Prop :=
  Blk wr w.heap.size 26 #[.int .i64 0, .int .i64 0] ∧ wr.ownsRow (w.heap.size + 1) 30 5 v toks.length (toks.flatMap tokC) ∧ Bel w.heap.size w wr ∧ w.heap.size < wr.heap.size
theorem LX.start (w : World) : LX w (w.alloc (.cells #[.int .i64 0, .int .i64 0] 26)) (.slice none 0 0) [] :=
  ⟨Blk.new _ _ _, World.ownsRow_nil _ _ _ _, (Bel.refl _ _).alloc (Nat.le_refl _) _, by simp⟩
theorem LX.bel {w wr w2 : World} {v : Value} {toks : List TokD} (h : LX w wr v toks) (hb : Bel wr.heap.size wr w2) : LX w w2 v toks :=
  ⟨h.1.bel hb h.1.lt, ownsRow_bel h.2.1 hb (Nat.le_refl _), h.2.2.1.next hb, Nat.lt_of_lt_of_le h.2.2.2 hb.size⟩
theorem LX.grown {w wr w2 : World} {v v' : Value} {toks : List TokD} {x : TokD} (h : LX w wr v toks) (h1 : w2.ownsRow (w.heap.size + 1) 30 5 v' (toks.length + 1) (toks.flatMap tokC ++ tokC x)) (h2 : wr.grownBy w2 v.ownBlock) : LX w w2 v' (toks ++ [x]) := by
  have hk : ∀ k, v.ownBlock = some k → w.heap.size + 1 ≤ k := fun k hk => (h.2.1.lt k hk).1
  have hb : Bel (w.heap.size + 1) wr w2 := grown_bel h2 h.2.2.2 hk
  refine ⟨h.1.bel hb (by omega), ?_, h.2.2.1.trans (hb.mono (by omega)), Nat.lt_of_lt_of_le h.2.2.2 hb.size⟩
  rw [List.length_append, List.flatMap_append, List.length_singleton]
  simpa using h1
theorem LX.store {w wr : World} {v : Value} {toks : List TokD} (h : LX w wr v toks) (a b : Value) : ((wr.setCell ⟨w.heap.size, 0, none⟩ a).setCell ⟨w.heap.size, 1, none⟩ b).ownsRow (w.heap.size + 1) 30 5 v toks.length (toks.flatMap tokC) := by
  have key : ∀ k, w.heap.size < k → ((wr.setCell ⟨w.heap.size, 0, none⟩ a).setCell ⟨w.heap.size, 1, none⟩ b).heap[k]? = wr.heap[k]? := fun k hk =>
    (Below.heap_setCell _ ⟨w.heap.size, 1, none⟩ _ k (by show k ≠ w.heap.size; omega)).trans (Below.heap_setCell _ ⟨w.heap.size, 0, none⟩ _ k (by show k ≠ w.heap.size; omega))
  refine ⟨h.2.1.1, ?_⟩
  rcases h.2.1.2 with h' | ⟨g, cap, cur, h1, h2, h3, h4⟩
  · exact .inl h'
  · exact .inr ⟨g, cap, cur, h1, h2, (key g (by omega)).trans h3, h4⟩
theorem LX.stored {w wr : World} {v : Value} {toks : List TokD} (h : LX w wr v toks) (a b : Value) : Bel w.heap.size w ((wr.setCell ⟨w.heap.size, 0, none⟩ a).setCell ⟨w.heap.size, 1, none⟩ b) :=
  (h.2.2.1.setCell (Nat.le_refl _) _).setCell (Nat.le_refl _) _
/-- With tokens ahead. -/
def pref (toks : List TokD) (r : Except (Int × Nat) (List TokD)) : Except (Int × Nat) (List TokD) := match r with | .error e => .error e | .ok l => .ok (toks ++ l)
theorem pref_nil (r : Except (Int × Nat) (List TokD)) : pref [] r = r := by cases r <;> rfl
theorem lex_stop {s : ByteArray} {f a : Nat} {toks : List TokD} (h : s.size ≤ a) : pref toks (lexF f a (dr s a)) = .ok toks := by
  rw [show dr s a = [] from drop_nil s a h]
  cases f <;> simp [lexF, pref]
theorem dr_ne {s : ByteArray} {a : Nat} (h : a < s.size) : dr s a ≠ [] := by rw [dr, drop_cons s a h]; simp
theorem dr_nil_iff (s : ByteArray) (a : Nat) : dr s a = [] ↔ s.size ≤ a := by
  constructor
  · intro h; rcases Nat.lt_or_ge a s.size with h' | h'
    · exact absurd h (dr_ne h')
    · exact h'
  · intro h; exact drop_nil s a h
theorem lex_gap {s : ByteArray} {f a : Nat} {toks : List TokD} (h : a < s.size) (hg : 0 < bkN (dr s a)) (h1 : a = 0 ∨ s.size ≤ a + bkN (dr s a)) : pref toks (lexF (f + 1) a (dr s a)) = .error (3, a) := by
  rw [lexF, if_neg (dr_ne h), dr_dr, if_pos ⟨hg, h1.imp id (fun h => (dr_nil_iff s _).2 h)⟩]; rfl
theorem lex_err {s : ByteArray} {f a g : Nat} {toks : List TokD} {e : Int} (h : a < s.size) (hg : bkN (dr s a) = g) (h1 : ¬ (0 < g ∧ (a = 0 ∨ s.size ≤ a + g))) (ht : tokT (dr s (a + g)) = .error e) : pref toks (lexF (f + 1) a (dr s a)) = .error (e, a + g) := by
  rw [lexF, if_neg (dr_ne h), dr_dr, hg, if_neg (fun hh => h1 ⟨hh.1, hh.2.imp id (fun h => (dr_nil_iff s _).1 h)⟩), ht]; rfl
theorem lex_go {s : ByteArray} {f a g : Nat} {toks : List TokD} {k v : Int} {t : List UInt8} {n : Nat} (h : a < s.size) (hg : bkN (dr s a) = g) (h1 : ¬ (0 < g ∧ (a = 0 ∨ s.size ≤ a + g))) (ht : tokT (dr s (a + g)) = .ok (k, t, v, n)) :
    pref toks (lexF (f + 1) a (dr s a)) = pref (toks ++ [⟨k, t, v, a + g, decide (0 < g)⟩]) (lexF f (a + g + n) (dr s (a + g + n))) := by
  rw [lexF, if_neg (dr_ne h), dr_dr, hg, if_neg (fun hh => h1 ⟨hh.1, hh.2.imp id (fun h => (dr_nil_iff s _).1 h)⟩), ht]
  simp only [dr_dr]
  cases lexF f (a + g + n) (dr s (a + g + n)) with
  | error e => rfl
  | ok r => simp [pref]
theorem lexL_long {l : List UInt8} (h : 4096 < l.length) : lexL l = .error (4, 0) := by unfold lexL; rw [if_pos h]
theorem lexL_err {l : List UInt8} {e : Int × Nat} (h : ¬ 4096 < l.length) (hf : lexF (l.length + 1) 0 l = .error e) : lexL l = .error e := by unfold lexL; rw [if_neg h, hf]
theorem lexL_nil {l : List UInt8} (h : ¬ 4096 < l.length) (hf : lexF (l.length + 1) 0 l = .ok []) : lexL l = .error (3, 0) := by unfold lexL; rw [if_neg h, hf]
theorem lexL_ok {l : List UInt8} {toks : List TokD} (h : ¬ 4096 < l.length) (hf : lexF (l.length + 1) 0 l = .ok toks) (hn : toks ≠ []) : lexL l = .ok toks := by
  unfold lexL; rw [if_neg h, hf]
  cases toks with
  | nil => exact absurd rfl hn
  | cons => rfl
theorem num_err (P Q : Prop) [Decidable P] [Decidable Q] (a : Int × Nat) (x : Int) (h : (if P then (.error 3 : Except Int (Int × Nat)) else if Q then .error 6 else .ok a) = .error x) : x = 3 ∨ x = 6 := by
  by_cases hp : P
  · rw [if_pos hp] at h; injection h with h; exact .inl h.symm
  · rw [if_neg hp] at h
    by_cases hq : Q
    · rw [if_pos hq] at h; injection h with h; exact .inr h.symm
    · rw [if_neg hq] at h; cases h
theorem tokT_err {l : List UInt8} {e : Int} (h : tokT l = .error e) : (e == 0) = false ∧ (e != 0) = true := by
  have key : e = 3 ∨ e = 6 := by
    unfold tokT at h
    cases l with
    | nil => simp only [Except.error.injEq] at h; omega
    | cons c r =>
      simp only at h
      split at h
      · split at h
        · cases h
        · simp only [Except.error.injEq] at h; omega
      · split at h
        · cases hn : numT (c :: r) with
          | ok vn => rw [hn] at h; cases h
          | error x =>
            rw [hn] at h
            simp only [Except.error.injEq] at h
            unfold numT at hn
            rw [← h]; exact num_err _ _ _ _ hn
        · split at h
          · cases h
          · split at h
            · cases h
            · simp only [Except.error.injEq] at h; omega
  rcases key with rfl | rfl <;> exact ⟨rfl, rfl⟩
theorem lexF_err0 : ∀ (f a : Nat) (u : List UInt8) (e : Int × Nat), lexF f a u = .error e → (e.1 == 0) = false ∧ (e.1 != 0) = true
  | 0, _, _, _, h => by simp [lexF] at h
  | f + 1, a, u, e, h => by
    rw [lexF] at h
    by_cases h1 : u = []
    · rw [if_pos h1] at h; cases h
    · rw [if_neg h1] at h
      by_cases h2 : 0 < bkN u ∧ (a = 0 ∨ u.drop (bkN u) = [])
      · rw [if_pos h2] at h; cases h; exact ⟨rfl, rfl⟩
      · rw [if_neg h2] at h
        cases ht : tokT (u.drop (bkN u)) with
        | error x => rw [ht] at h; cases h; exact tokT_err ht
        | ok kt =>
          obtain ⟨k, t, v, n⟩ := kt
          rw [ht] at h
          simp only at h
          cases hf : lexF f (a + bkN u + n) ((u.drop (bkN u)).drop n) with
          | error x => rw [hf] at h; cases h; exact lexF_err0 f _ _ _ hf
          | ok r => rw [hf] at h; cases h
theorem lexL_err0 {l : List UInt8} {x : Int} {a : Nat} (h : lexL l = .error (x, a)) : (x == 0) = false ∧ (x != 0) = true := by
  unfold lexL at h
  split at h
  · cases h; exact ⟨rfl, rfl⟩
  · split at h
    · rename_i e he; cases h; exact lexF_err0 _ _ _ _ he
    · cases h; exact ⟨rfl, rfl⟩
    · cases h
/-- One token in order. -/
theorem ordL_cons {l : List UInt8} {from_ : Nat} {x : TokD} {r : List TokD} (h : ordL l from_ (x :: r) = true) :
    from_ ≤ x.at_ ∧ x.at_ < l.length ∧ (x.gap = true → x.at_ ≠ from_) ∧
    (if x.kind = 1 ∨ x.kind = 2 then 0 < x.s.length ∧ x.s.length ≤ l.length - x.at_ ∧ (l.drop x.at_).take x.s.length = x.s ∧ ordL l (x.at_ + x.s.length) r = true else ordL l (x.at_ + 1) r = true) := by
  rw [ordL] at h
  by_cases h1 : x.at_ < from_ ∨ l.length ≤ x.at_ ∨ (x.gap = true ∧ x.at_ = from_)
  · rw [if_pos h1] at h; cases h
  · rw [if_neg h1] at h
    refine ⟨by omega, by omega, fun hg he => h1 (.inr (.inr ⟨hg, he⟩)), ?_⟩
    by_cases h2 : x.kind = 1 ∨ x.kind = 2
    · rw [if_pos h2] at h ⊢
      by_cases h3 : x.s.length = 0 ∨ l.length - x.at_ < x.s.length ∨ (l.drop x.at_).take x.s.length ≠ x.s
      · rw [if_pos h3] at h; cases h
      · rw [if_neg h3] at h
        exact ⟨by omega, by omega, Classical.byContradiction fun hc => h3 (.inr (.inr hc)), h⟩
    · rw [if_neg h2] at h ⊢; exact h
theorem ordL_len {l : List UInt8} : ∀ (r : List TokD) (fr : Nat), ordL l fr r = true → r.length ≤ l.length - fr
  | [], _, _ => by simp
  | x :: r, fr, h => by
    obtain ⟨h1, h2, _, h3⟩ := ordL_cons h
    split at h3
    · have := ordL_len r _ h3.2.2.2; simp; omega
    · have := ordL_len r _ h3; simp; omega
theorem ext_mid (s : ByteArray) (a n : Nat) : (s.extract a (a + n)).data.toList = (dr s a).take n := by
  simp [ByteArray.data_extract, List.extract_eq_take_drop, dr]
/-- A slice of tokens, cell by cell. -/
def TkR (w : World) (A : Option Addr) (toks : List TokD) : Prop :=
  toks = [] ∨ ∃ b off, A = some ⟨b, off, none⟩ ∧ b < w.heap.size ∧ ∀ (i : Nat) (x : TokD), toks[i]? = some x → w.cell? ⟨b, off + i * 5, none⟩ = some (.int .i64 x.kind) ∧ w.cell? ⟨b, off + i * 5 + 1, none⟩ = some (.string (bs x.s)) ∧ w.cell? ⟨b, off + i * 5 + 2, none⟩ = some (.int .i64 x.n) ∧ w.cell? ⟨b, off + i * 5 + 3, none⟩ = some (.int .i64 (x.at_ : Nat)) ∧ w.cell? ⟨b, off + i * 5 + 4, none⟩ = some (.bool x.gap)
theorem tok_own {w : World} {base n : Nat} {e : TypeId} {v : Value} {l : List TokD} (h : w.ownsRow base e 5 v n (l.flatMap tokC)) (hn : n = l.length) : ∃ A cap, v = .slice A l.length cap ∧ l.length ≤ cap ∧ TkR w A l := by
  obtain ⟨A, cap, h1, h2, h3⟩ := own_flat tokC 5 tokC_len w base n e v l h hn
  refine ⟨A, cap, h1, h2, h3.imp id ?_⟩
  rintro ⟨b, off, e, _, hb, hc⟩
  exact ⟨b, off, e, hb, fun i x hx => ⟨hc i x hx 0 _ (by omega) rfl, hc i x hx 1 _ (by omega) rfl, hc i x hx 2 _ (by omega) rfl, hc i x hx 3 _ (by omega) rfl, hc i x hx 4 _ (by omega) rfl⟩⟩
theorem TkR.bel {w w2 : World} {A : Option Addr} {toks : List TokD} (h : TkR w A toks) (hb : Bel w.heap.size w w2) : TkR w2 A toks := by
  refine h.imp id ?_
  rintro ⟨b, off, e, hlt, hc⟩
  refine ⟨b, off, e, Nat.lt_of_lt_of_le hlt hb.size, fun i x hx => ?_⟩
  obtain ⟨h0, h1, h2, h3, h4⟩ := hc i x hx
  exact ⟨(hb.cell (p := ⟨b, _, none⟩) hlt).trans h0, (hb.cell (p := ⟨b, _, none⟩) hlt).trans h1, (hb.cell (p := ⟨b, _, none⟩) hlt).trans h2, (hb.cell (p := ⟨b, _, none⟩) hlt).trans h3, (hb.cell (p := ⟨b, _, none⟩) hlt).trans h4⟩
/-- What is returned of a query's text. -/
def LexP (l : List UInt8) (w : World) (e : Ending) (w' : World) : Prop :=
  (match lexL l with
    | .error (x, a) => e = .returned (.tuple #[.slice none 0 0, .agg #[.int .i64 x, .int .i64 ((a : Nat) : Int)]])
    | .ok toks => ∃ v, e = .returned (.tuple #[v, .agg #[.int .i64 0, .int .i64 0]]) ∧ w'.ownsRow (w.heap.size + 1) 30 5 v toks.length (toks.flatMap tokC)) ∧ Bel w.heap.size w w'
theorem LexP.no {l : List UInt8} {w w' : World} {x : Int} {a : Nat} (h : lexL l = .error (x, a)) (hb : Bel w.heap.size w w') : LexP l w (.returned (.tuple #[.slice none 0 0, .agg #[.int .i64 x, .int .i64 ((a : Nat) : Int)]])) w' := by
  unfold LexP; rw [h]; exact ⟨rfl, hb⟩
theorem LexP.yes {l : List UInt8} {w w' : World} {toks : List TokD} {v : Value} (h : lexL l = .ok toks) (hv : w'.ownsRow (w.heap.size + 1) 30 5 v toks.length (toks.flatMap tokC)) (hb : Bel w.heap.size w w') : LexP l w (.returned (.tuple #[v, .agg #[.int .i64 0, .int .i64 0]])) w' := by
  unfold LexP; rw [h]; exact ⟨⟨v, rfl, hv⟩, hb⟩


/- ref09: Put (as Ka, over A0). -/

theorem conv_new (w : World) (xs : List Int) (n c : Nat) (t : TypeId) (m : Nat × Nat) (hn : xs.length = n) :
    (convert 88 9 (.slice (some ⟨w.heap.size, 0, none⟩) n c)).run Tryd.prog (w.alloc (.cells (xs.map (Value.int .u8)).toArray t m)) = .ok (.string (strOfNums xs)) (w.alloc (.cells (xs.map (Value.int .u8)).toArray t m)) :=
  run_convert_bytes_arg (P := Tryd.prog) _ 88 5 Tryd.underlying88 Tryd.underlying5 w.heap.size 0 n c xs hn (fun i hi => by
    rw [Nat.zero_add, World.cell?_alloc_mark]
    simp [List.getD, List.getElem?_eq_getElem (show i < xs.length by omega)]) 9 Tryd.underlying9
theorem conv_1 (w : World) (a : Int) : (convert 88 9 (.slice (some ⟨w.heap.size, 0, none⟩) 1 1)).run Tryd.prog (w.alloc (.cells #[.int .u8 a] 5)) = .ok (.string (strOfNums [a])) (w.alloc (.cells #[.int .u8 a] 5)) := conv_new w [a] 1 1 _ _ rfl
theorem conv_2 (w : World) (a b : Int) : (convert 88 9 (.slice (some ⟨w.heap.size, 0, none⟩) 2 2)).run Tryd.prog (w.alloc (.cells #[.int .u8 a, .int .u8 b] 5)) = .ok (.string (strOfNums [a, b])) (w.alloc (.cells #[.int .u8 a, .int .u8 b] 5)) := conv_new w [a, b] 2 2 _ _ rfl
theorem conv_3 (w : World) (a b c : Int) : (convert 88 9 (.slice (some ⟨w.heap.size, 0, none⟩) 3 3)).run Tryd.prog (w.alloc (.cells #[.int .u8 a, .int .u8 b, .int .u8 c] 5)) = .ok (.string (strOfNums [a, b, c])) (w.alloc (.cells #[.int .u8 a, .int .u8 b, .int .u8 c] 5)) := conv_new w [a, b, c] 3 3 _ _ rfl
theorem conv_4 (w : World) (a b c d : Int) : (convert 88 9 (.slice (some ⟨w.heap.size, 0, none⟩) 4 4)).run Tryd.prog (w.alloc (.cells #[.int .u8 a, .int .u8 b, .int .u8 c, .int .u8 d] 5)) = .ok (.string (strOfNums [a, b, c, d])) (w.alloc (.cells #[.int .u8 a, .int .u8 b, .int .u8 c, .int .u8 d] 5)) := conv_new w [a, b, c, d] 4 4 _ _ rfl

set_option maxHeartbeats 1000000 in
theorem put_any (c : Int) (w : World) (h0 : 0 ≤ c) (h1 : c < 2097152) :
    Calls Tryd.prog 31 #[.int .i64 c] w fun e w' => e = .returned (.string (strOfNums (putI c))) ∧ Below w.heap.size w w' := by
  have k1 := conv_1; have k2 := conv_2; have k3 := conv_3; have k4 := conv_4
  by_cases hb : c < 0 ∨ 1114111 < c ∨ (55296 ≤ c ∧ c ≤ 57343)
  · have e := Lib.hid (show strOfNums (putI c) = ⟨#[]⟩ by rw [putI, if_pos hb]; rfl)
    rcases hb with hb | hb | ⟨hb, hb'⟩
    · omega
    all_goals
      go_enter Tryd.func31, Tryd.ntmps31
      go_wp2
      go_ret
      exact ⟨ret_str (by rw [e.out]), Below.refl _ _⟩
  · have e := Lib.hid (show putI c = _ by rw [putI, if_neg hb])
    have g1 : c ≤ 1114111 := by omega
    by_cases g2 : c < 55296
    · clear hb
      by_cases h2 : c < 128
      · have e := Lib.hid (show putI c = _ from e.out.trans (if_pos h2))
        go_enter Tryd.func31, Tryd.ntmps31
        go_wp2
        go_ret
        exact ⟨ret_str (by rw [e.out]), (Below.refl _ _).alloc (Nat.le_refl _) _⟩
      · have e := Lib.hid (show putI c = _ from e.out.trans (if_neg h2))
        by_cases h3 : c < 2048
        · have e := Lib.hid (show putI c = _ from e.out.trans (if_pos h3))
          go_enter Tryd.func31, Tryd.ntmps31
          go_wp2
          go_ret
          exact ⟨ret_str (by rw [e.out]), (Below.refl _ _).alloc (Nat.le_refl _) _⟩
        · have e := Lib.hid (show putI c = _ from e.out.trans (if_neg h3))
          have e := Lib.hid (show putI c = _ from e.out.trans (if_pos (by omega)))
          go_enter Tryd.func31, Tryd.ntmps31
          go_wp2
          go_ret
          exact ⟨ret_str (by rw [e.out]), (Below.refl _ _).alloc (Nat.le_refl _) _⟩
    · have g3 : 57343 < c := by omega
      clear hb
      have e := Lib.hid (show putI c = _ from e.out.trans (if_neg (by omega)))
      have e := Lib.hid (show putI c = _ from e.out.trans (if_neg (by omega)))
      by_cases h4 : c < 65536
      · have e := Lib.hid (show putI c = _ from e.out.trans (if_pos h4))
        go_enter Tryd.func31, Tryd.ntmps31
        go_wp2
        go_ret
        exact ⟨ret_str (by rw [e.out]), (Below.refl _ _).alloc (Nat.le_refl _) _⟩
      · have e := Lib.hid (show putI c = _ from e.out.trans (if_neg h4))
        go_enter Tryd.func31, Tryd.ntmps31
        go_wp2
        go_ret
        exact ⟨ret_str (by rw [e.out]), (Below.refl _ _).alloc (Nat.le_refl _) _⟩


end Go.Proofs.YtmopeandckmgcaaDoor
