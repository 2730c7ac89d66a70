/- Slices of structs as flat rows; no word of a dump. -/
import Derived.Test.YtihfhohdnjbahaaDoorA0
namespace Go.Proofs.YtihfhohdnjbahaaDoor
open Go.RowKit

theorem flat_len {α : Type} (f : α → List Value) (k : Nat) (hk : ∀ x, (f x).length = k) : ∀ l : List α, (l.flatMap f).length = l.length * k
  | [] => by simp
  | x :: l => by rw [List.flatMap_cons, List.length_append, hk, flat_len f k hk l, List.length_cons, Nat.add_mul]; omega
theorem flat_get {α : Type} (f : α → List Value) (k : Nat) (hk : ∀ x, (f x).length = k) : ∀ (l : List α) (i j : Nat), j < k → (l.flatMap f)[i * k + j]? = (l[i]?).bind (fun x => (f x)[j]?)
  | [], i, j, _ => by simp
  | x :: l, 0, j, hj => by
    rw [List.flatMap_cons, List.getElem?_append_left (by rw [hk]; omega)]; simp
  | x :: l, i + 1, j, hj => by
    rw [List.flatMap_cons, List.getElem?_append_right (by rw [hk, Nat.add_mul]; omega), hk, show (i + 1) * k + j - k = i * k + j by rw [Nat.add_mul]; omega, flat_get f k hk l i j hj]
    simp
theorem add_lit (b off n : Nat) : (⟨b, off, none⟩ : Addr).add n = ⟨b, off + n, none⟩ := by
  unfold Addr.add; by_cases h : n = 0 <;> simp [h]
/-- From cells of elements to a flat reading. -/
theorem reads_flat {α : Type} (f : α → List Value) (k : Nat) (hk : ∀ x, (f x).length = k) (hk0 : 0 < k) (w : World) (A : Option Addr) (l : List α)
    (h : l = [] ∨ ∃ b off, A = some ⟨b, off, none⟩ ∧ b < w.heap.size ∧ ∀ (i : Nat) (x : α), l[i]? = some x → ∀ j u, (f x)[j]? = some u → w.cell? ⟨b, off + i * k + j, none⟩ = some u) :
    Reads w w.heap.size k A l.length (l.flatMap f) := by
  refine ⟨flat_len f k hk l, fun hn => ?_⟩
  obtain ⟨b, off, rfl, hb, hc⟩ := h.resolve_left (by intro e; rw [e] at hn; simp at hn)
  refine ⟨_, rfl, hb, fun j u hu => ?_⟩
  have hj : j % k < k := Nat.mod_lt _ hk0
  have hd : j / k * k + j % k = j := Nat.div_add_mod' j k
  rw [← hd, flat_get f k hk l (j / k) (j % k) hj] at hu
  obtain ⟨x, hx, hu2⟩ := Option.bind_eq_some_iff.1 hu
  rw [add_lit, ← hd, ← Nat.add_assoc]
  exact hc (j / k) x hx (j % k) u hu2
/-- From an owned row to cells of elements. -/
theorem own_flat {α : Type} (f : α → List Value) (k : Nat) (hk : ∀ x, (f x).length = k) (w : World) (base n : Nat) (e : TypeId) (v : Value) (l : List α) (h : w.ownsRow base e k v n (l.flatMap f)) (hn : n = l.length) :
    ∃ A cap, v = .slice A l.length cap ∧ l.length ≤ cap ∧ (l = [] ∨ ∃ b off, A = some ⟨b, off, none⟩ ∧ base ≤ b ∧ b < w.heap.size ∧ ∀ (i : Nat) (x : α), l[i]? = some x → ∀ j u, j < k → (f x)[j]? = some u → w.cell? ⟨b, off + i * k + j, none⟩ = some u) := by
  subst hn
  have h2 := h.2
  rcases h2 with ⟨rfl, h0⟩ | ⟨g, cap, cur, rfl, hbs, hg, hle, _⟩
  · exact ⟨none, 0, by rw [h0], by omega, .inl (List.eq_nil_of_length_eq_zero h0)⟩
  · refine ⟨some ⟨g, 0, none⟩, cap, rfl, hle, .inr ⟨g, 0, rfl, hbs, (Array.getElem?_eq_some_iff.1 hg).1, fun i x hx j u hj hu => ?_⟩⟩
    have := h.cells (g := g) rfl (i * k + j) u (by rw [flat_get f k hk l i j hj, hx]; exact hu)
    rw [add_lit] at this
    rw [show 0 + i * k + j = 0 + (i * k + j) by omega]; exact this

/-- A row just laid. -/
theorem reads_new (w : World) (e : TypeId) (k m : Nat) (xs : List Value) (h : xs.length = m * k) : Reads (w.alloc (.cells xs.toArray e)) (w.heap.size + 1) k (some ⟨w.heap.size, 0, none⟩) m xs :=
  ⟨h, fun _ => ⟨_, rfl, by show w.heap.size < _; omega, fun j u hu => by
    rw [add_lit, (Blk.new w e xs.toArray).cell]; simpa using hu⟩⟩

end Go.Proofs.YtihfhohdnjbahaaDoor
