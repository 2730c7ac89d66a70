/- Slices that read as lists. -/
import Derived.RangeFuncBox
import Derived.Test.YtppeahlnpidheaaJb
import Derived.Deep.Draws
namespace Go.Proofs.Ytppeahlnpidheaa
open Go.RowKit

/-- The slice of address A reads as the list xs, one cell an element. -/
def Rd (w : World) (A : Option Addr) (xs : List Value) : Prop :=
  xs = [] ∨ ∃ b off, A = some ⟨b, off, none⟩ ∧ b < w.heap.size ∧ ∀ i u, xs[i]? = some u → w.cell? ⟨b, off + i, none⟩ = some u

theorem Rd.below {w w' : World} {A : Option Addr} {xs : List Value} {B : Nat} (h : Rd w A xs) (hb : Below B w w') (hB : w.heap.size ≤ B) : Rd w' A xs := by
  rcases h with h | ⟨b, off, e, hlt, hc⟩
  · exact .inl h
  · exact .inr ⟨b, off, e, by have := hb.size; omega, fun i u hu => (hb.cell (p := ⟨b, off + i, none⟩) (by show b < B; omega)).trans (hc i u hu)⟩
theorem Rd.drew {w : World} {A : Option Addr} {xs : List Value} (h : Rd w A xs) : Rd w.drew A xs := h
theorem Rd.drewN {w : World} {A : Option Addr} {xs : List Value} (h : Rd w A xs) (n : Nat) : Rd (w.drewN n) A xs := h
theorem Rd.alloc {w : World} {A : Option Addr} {xs : List Value} (h : Rd w A xs) (o : Obj) : Rd (w.alloc o) A xs := h.below ((Below.refl _ _).alloc (Nat.le_refl _) o) (Nat.le_refl _)
theorem Rd.nil (w : World) (A : Option Addr) : Rd w A [] := .inl rfl
theorem Rd.cons {w : World} {A : Option Addr} {x : Value} {xs : List Value} (h : Rd w A (x :: xs)) : ∃ b off, A = some ⟨b, off, none⟩ ∧ b < w.heap.size ∧ ∀ i u, (x :: xs)[i]? = some u → w.cell? ⟨b, off + i, none⟩ = some u :=
  h.resolve_left (by simp)
theorem Rd.pos {w : World} {A : Option Addr} {xs : List Value} (h : Rd w A xs) (hp : 0 < xs.length) : ∃ b off, A = some ⟨b, off, none⟩ ∧ b < w.heap.size ∧ ∀ i u, xs[i]? = some u → w.cell? ⟨b, off + i, none⟩ = some u :=
  h.resolve_left (by rintro rfl; simp at hp)
/-- What an owned row reads as. -/
theorem Rd.of_own {w : World} {base n : Nat} {e : TypeId} {v : Value} {xs : List Value} (h : w.ownsRow base e 1 v n xs) :
    ∃ A cap, v = .slice A xs.length cap ∧ xs.length = n ∧ Rd w A xs ∧ (v = .slice none 0 0 ∨ ∃ g, A = some ⟨g, 0, none⟩ ∧ base ≤ g) := by
  obtain ⟨hl, hv⟩ := h
  have hv' := hv
  rcases hv with ⟨rfl, rfl⟩ | ⟨g, cap, cur, rfl, hb, hg, _, _, _, hx⟩
  · have : xs = [] := List.eq_nil_of_length_eq_zero (by omega)
    subst this
    exact ⟨none, 0, rfl, rfl, .inl rfl, .inl rfl⟩
  · refine ⟨some ⟨g, 0, none⟩, cap, by simp [hl], by omega, .inr ⟨g, 0, rfl, (Array.getElem?_eq_some_iff.1 hg).1, fun i u hu => ?_⟩, .inr ⟨g, rfl, hb⟩⟩
    have := World.ownsRow.cells (base := base) (v := .slice (some ⟨g, 0, none⟩) n cap) (show w.ownsRow base e 1 _ n xs from ⟨hl, hv'⟩) (g := g) rfl i u hu
    have e : (⟨g, 0, none⟩ : Addr).add i = ⟨g, i, none⟩ := by unfold Addr.add; by_cases hi : i = 0 <;> simp [hi]
    rw [e] at this; simpa using this

/-- Below block number B the world w' is as w was (of the tape nothing is said). -/
structure Bel (B : Nat) (w w' : World) : Prop where
  os : w'.os = w.os
  output : w'.output = w.output
  size : w.heap.size ≤ w'.heap.size
  block : ∀ k, k < B → w'.heap[k]? = w.heap[k]?
theorem Bel.of {B : Nat} {w w' : World} (h : Below B w w') : Bel B w w' := ⟨h.os, h.output, h.size, h.block⟩
theorem Bel.refl (B : Nat) (w : World) : Bel B w w := .of (Below.refl B w)
theorem Bel.trans {B : Nat} {a b c : World} (h : Bel B a b) (k : Bel B b c) : Bel B a c :=
  ⟨k.os.trans h.os, k.output.trans h.output, Nat.le_trans h.size k.size, fun i hi => (k.block i hi).trans (h.block i hi)⟩
theorem Bel.mono {B B' : Nat} {w w' : World} (h : Bel B w w') (hB : B' ≤ B) : Bel B' w w' := ⟨h.os, h.output, h.size, fun k hk => h.block k (Nat.lt_of_lt_of_le hk hB)⟩
theorem Bel.and {B : Nat} {a b c : World} (h : Bel B a b) (k : Below b.heap.size b c) (hB : B ≤ b.heap.size) : Bel B a c := h.trans (Bel.of (k.mono hB))
theorem Bel.next {a b c : World} (h : Bel a.heap.size a b) (k : Bel b.heap.size b c) : Bel a.heap.size a c := h.trans (k.mono h.size)
theorem Bel.drew {B : Nat} {a w : World} (h : Bel B a w) : Bel B a w.drew := ⟨h.os, h.output, h.size, h.block⟩
theorem Bel.drewN {B : Nat} {a w : World} (h : Bel B a w) (n : Nat) : Bel B a (w.drewN n) := ⟨h.os, h.output, h.size, h.block⟩
theorem Bel.alloc {B : Nat} {a w : World} (h : Bel B a w) (hB : B ≤ w.heap.size) (o : Obj) : Bel B a (w.alloc o) := h.trans (.of ((Below.refl B w).alloc hB o))
theorem Bel.setCell {B : Nat} {a w : World} (h : Bel B a w) {p : Addr} (hp : B ≤ p.block) (u : Value) : Bel B a (w.setCell p u) := h.trans (.of ((Below.refl B w).setCell hp u))
theorem Bel.grown {B : Nat} {a w w' : World} {row : Option Nat} (h : Bel B a w) (hg : w.grownBy w' row) (hB : B ≤ w.heap.size) (hr : ∀ k, row = some k → B ≤ k) : Bel B a w' := h.trans (.of ((Below.refl B w).grown hg hB hr))
theorem Bel.cell {B : Nat} {w w' : World} (h : Bel B w w') {p : Addr} (hp : p.block < B) : w'.cell? p = w.cell? p := World.cell?_of_block (h.block _ hp)
theorem Bel.frozen {B : Nat} {w w' : World} (h : Bel B w w') {p : Addr} (hp : p.block < B) : w'.frozen? p = w.frozen? p := World.frozen?_of_block (h.block _ hp)
theorem Rd.bel {w w' : World} {A : Option Addr} {xs : List Value} {B : Nat} (h : Rd w A xs) (hb : Bel B w w') (hB : w.heap.size ≤ B) : Rd w' A xs := by
  rcases h with h | ⟨b, off, e, hlt, hc⟩
  · exact .inl h
  · exact .inr ⟨b, off, e, by have := hb.size; omega, fun i u hu => (hb.cell (p := ⟨b, off + i, none⟩) (by show b < B; omega)).trans (hc i u hu)⟩

theorem str_t {a b : ByteArray} (h : a = b) : (a.toList == b.toList) = true := by subst h; simp
theorem str_f {a b : ByteArray} (h : ¬ a = b) : (a.toList == b.toList) = false := by
  rw [beq_eq_false_iff_ne]; intro e; apply h
  rw [ByteArray.toList_eq, ByteArray.toList_eq] at e
  exact ByteArray.ext (Array.toList_inj.1 e)
theorem below_drewN (B : Nat) (w : World) (n : Nat) : Below B w (w.drewN n) := ⟨rfl, rfl, rfl, Nat.le_refl _, fun _ _ => rfl⟩

end Go.Proofs.Ytppeahlnpidheaa
