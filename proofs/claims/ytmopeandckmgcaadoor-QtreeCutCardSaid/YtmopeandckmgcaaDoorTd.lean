/- Rows put together. -/
import Derived.Test.YtmopeandckmgcaaDoorQi
namespace Go.Proofs.YtmopeandckmgcaaDoor
open Go.RowKit

/-- A row's cells, element by element. -/
theorem RowG.css {α : Type} {K : Nat → Prop} {k : Nat} (hk0 : 0 < k) {R : List Value → α → Prop} {w : World} {A : Option Addr} {n c : Nat} {l : List α} (h : RowG K k R w (.slice A n c) l) :
    ∃ css : List (List Value), css.length = l.length ∧ (∀ cs ∈ css, cs.length = k) ∧ (∀ (i : Nat) (cs : List Value) (x : α), css[i]? = some cs → l[i]? = some x → R cs x) ∧ Reads w w.heap.size k A l.length css.flatten := by
  obtain ⟨A', cap, e, -, h3⟩ := h
  obtain rfl : A = A' := (Value.slice.inj e).1
  rcases h3 with rfl | ⟨b, off, rfl, hK, hb, hc⟩
  · exact ⟨[], rfl, fun cs h => by simp at h, fun i cs x h => by simp at h, ⟨by simp, fun h => absurd h (by simp)⟩⟩
  · have key : ∀ i : Fin l.length, ∃ cs : List Value, cs.length = k ∧ (∀ (j : Nat) u, cs[j]? = some u → w.cell? ⟨b, off + i * k + j, none⟩ = some u) ∧ R cs l[i] := fun i => hc i l[i] (List.getElem?_eq_getElem i.2)
    let f : Fin l.length → List Value := fun i => Classical.choose (key i)
    have hf : ∀ i, (f i).length = k ∧ (∀ (j : Nat) u, (f i)[j]? = some u → w.cell? ⟨b, off + i * k + j, none⟩ = some u) ∧ R (f i) l[i] := fun i => Classical.choose_spec (key i)
    have hget : ∀ (i : Nat) (cs : List Value), (List.ofFn f)[i]? = some cs → ∃ hi : i < l.length, cs = f ⟨i, hi⟩ := fun i cs h => by
      rw [List.getElem?_ofFn] at h
      split at h
      · rename_i hi
        exact ⟨hi, (Option.some.inj h).symm⟩
      · cases h
    have hall : ∀ cs ∈ List.ofFn f, cs.length = k := fun cs hm => by
      obtain ⟨i, hi⟩ := List.mem_iff_getElem?.1 hm
      obtain ⟨h1, rfl⟩ := hget i cs hi
      exact (hf _).1
    refine ⟨List.ofFn f, by simp, hall, fun i cs x h1 h2 => ?_, ?_, fun _ => ⟨_, rfl, hb, fun j u hu => ?_⟩⟩
    · obtain ⟨hi, rfl⟩ := hget i cs h1
      have : l[i] = x := by rw [List.getElem?_eq_getElem hi] at h2; exact Option.some.inj h2
      rw [← this]
      exact (hf ⟨i, hi⟩).2.2
    · have : ∀ L : List (List Value), (∀ cs ∈ L, cs.length = k) → L.flatten.length = L.length * k := by
        intro L
        induction L with
        | nil => intro _; simp
        | cons c L ih => intro hL; rw [List.flatten_cons, List.length_append, ih fun c h => hL c (by simp [h]), hL c (by simp), List.length_cons, Nat.add_mul]; omega
      rw [this _ hall, List.length_ofFn]
    · have hj : j % k < k := Nat.mod_lt _ hk0
      have hd : j / k * k + j % k = j := Nat.div_add_mod' j k
      rw [← hd, flat_at _ k hall (j / k) (j % k) hj] at hu
      obtain ⟨cs, h1, h2⟩ := Option.bind_eq_some_iff.1 hu
      obtain ⟨hi, rfl⟩ := hget _ _ h1
      rw [add_lit, ← hd, ← Nat.add_assoc]
      exact (hf ⟨_, hi⟩).2.1 (j % k) u h2
section
variable {α : Type} {k : Nat} {T : TypeId} {R : Rel α} {m : Nat} {w0 : World} {v : Value} {l : List α} {css : List (List Value)}
/-- A row, and another one behind it. -/
theorem BRow.app (hR : RelOk k R) {w3 w4 : World} {v' : Value} {K : Nat → Prop} {mn : Nat} {css2 : List (List Value)} {l2 : List α} (h : BRow k T R m w0 w3 v l css) (hlen : css2.length = l2.length) (hk2 : ∀ cs ∈ css2, cs.length = k)
    (hn : ∀ (i : Nat) (cs : List Value) (x : α), css2[i]? = some cs → l2[i]? = some x → R K mn w3 cs x) (hK : ∀ b, K b → b < w3.heap.size → w0.heap.size ≤ b ∧ v.ownBlock ≠ some b)
    (ho : w4.ownsRow w0.heap.size T k v' (l.length + l2.length) (css.flatten ++ css2.flatten)) (hg : w3.grownBy w4 v.ownBlock) (hv : v'.ownBlock = v.ownBlock ∨ v'.ownBlock = some w3.heap.size) :
    BRow k T R (max m mn) w0 w4 v' (l ++ l2) (css ++ css2) := by
  have hk : ∀ {K' : Nat → Prop}, (∀ b, K' b → b < w3.heap.size → w0.heap.size ≤ b ∧ v.ownBlock ≠ some b) → Kp K' (fun b => w0.heap.size ≤ b ∧ v'.ownBlock ≠ some b) w3 w4 := fun hK' => by
    refine ⟨hg.size, fun b hb hl => ?_⟩
    obtain ⟨h1, h2⟩ := hK' b hb hl
    refine ⟨⟨h1, ?_⟩, hg.block b hl (fun e => h2 e.symm)⟩
    rcases hv with hv | hv
    · rw [hv]; exact h2
    · rw [hv]; simp only [ne_eq, Option.some.injEq]; omega
  refine ⟨by simp [h.len, hlen], ?_, ?_, ?_, Nat.le_trans h.size hg.size⟩
  · intro i cs' x' h1 h2
    rcases Nat.lt_or_ge i css.length with hi | hi
    · rw [List.getElem?_append_left hi] at h1
      rw [List.getElem?_append_left (by rw [← h.len]; exact hi)] at h2
      exact hR.keep (h.rel i cs' x' h1 h2) (hk fun b hb _ => hb) (Nat.le_max_left _ _)
    · rw [List.getElem?_append_right hi] at h1
      rw [List.getElem?_append_right (by rw [← h.len]; exact hi), ← h.len] at h2
      exact hR.keep (hn _ cs' x' h1 h2) (hk hK) (Nat.le_max_right _ _)
  · intro c hc
    rcases List.mem_append.1 hc with hc | hc
    · exact h.each c hc
    · exact hk2 c hc
  · rw [List.flatten_append, List.length_append]
    exact ho
end
/-- The cells of rows are one cell each. -/
theorem flat_one {k : Nat} {R : Rel SegT} (hone : ∀ {K : Nat → Prop} {m : Nat} {w : World} {cs : List Value} {x : SegT}, R K m w cs x → ∀ u ∈ cs, u.oneCell' = true) {K : Nat → Prop} {m : Nat} {w : World} {css : List (List Value)} {l : List SegT} (hlen : css.length = l.length)
    (hn : ∀ (i : Nat) (cs : List Value) (x : SegT), css[i]? = some cs → l[i]? = some x → R K m w cs x) : ∀ u ∈ css.flatten, u.oneCell' = true := by
  have _ := k
  intro u hu
  obtain ⟨cs, hcs, hu2⟩ := List.mem_flatten.1 hu
  obtain ⟨i, hi⟩ := List.mem_iff_getElem?.1 hcs
  have hi2 : i < l.length := by rw [← hlen]; exact (List.getElem?_eq_some_iff.1 hi).1
  exact hone (hn i cs _ hi (List.getElem?_eq_getElem hi2)) u hu2
/-- A text that is no query has a fault. -/
theorem parse_ne {l : List UInt8} {x a : Int} (h : parseT true l = .error (x, a)) : x ≠ 0 := by
  unfold parseT parse2 at h
  obtain ⟨u, hu⟩ : ∃ u, (if ovS (parse1 true (l.length : Nat) (stOf l)).2 = true then (parse1 true (l.length : Nat) (stOf l)).2 else formS (l.length : Nat) (parse1 true (l.length : Nat) (stOf l)).2) = u := ⟨_, rfl⟩
  rw [hu] at h
  by_cases hf : u.fe = 0
  · rw [if_pos hf] at h; cases h
  · rw [if_neg hf] at h
    cases h
    exact hf

end Go.Proofs.YtmopeandckmgcaaDoor
