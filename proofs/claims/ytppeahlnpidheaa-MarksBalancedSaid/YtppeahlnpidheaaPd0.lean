/- Values at places: plain. -/
import Derived.Test.YtppeahlnpidheaaPc
import Derived.Test.YtppeahlnpidheaaPe1
namespace Go.Proofs.Ytppeahlnpidheaa
open Go.RowKit

/-- A law on lists at a place: where it ends, how deep it is. -/
def vat (f : List UInt8 → Option (Nat × Nat)) (s : ByteArray) (a : Nat) : Option (Nat × Nat) := (f (dr s a)).map (fun x => (a + x.1, x.2))
/-- What an answer R says. -/
def Res (o : Option (Nat × Nat)) (m : Int) (ok : Bool) (d : Int) : Prop := match o with | some (q, d') => ok = true ∧ m = q ∧ d = d' | none => ok = false ∧ d = 0
def RP (w : World) (o : Option (Nat × Nat)) (e : Ending) (w' : World) : Prop := ∃ m ok d, e = .returned (RV m ok d) ∧ Res o m ok d ∧ Bel w.heap.size w w'
theorem Res.yes {o : Option (Nat × Nat)} {m : Int} {ok : Bool} {d : Int} (h : Res o m ok d) (hok : ok = true) : ∃ q d', o = some (q, d') ∧ m = (q : Int) ∧ d = (d' : Int) := by
  cases o with
  | none => simp [Res] at h; rw [h.1] at hok; cases hok
  | some x => exact ⟨x.1, x.2, rfl, h.2⟩
theorem Res.no {o : Option (Nat × Nat)} {m : Int} {ok : Bool} {d : Int} (h : Res o m ok d) (hok : ok = false) : o = none ∧ d = 0 := by
  cases o with
  | none => exact ⟨rfl, h.2⟩
  | some x => have := h.1; rw [this] at hok; cases hok
theorem Res.none_ (m : Int) : Res none m false 0 := ⟨rfl, rfl⟩
theorem RP.of_E {w : World} {a : Nat} {o : Option Nat} {e : Ending} {w' : World} (h : EPost w a o e w') : RP w (o.map fun n => (a + n, 0)) e w' := by
  cases o with
  | none => obtain ⟨⟨n, hn⟩, hb⟩ := h; exact ⟨n, false, 0, hn, ⟨rfl, rfl⟩, hb⟩
  | some n => obtain ⟨hn, hb⟩ := h; exact ⟨_, true, 0, hn, ⟨rfl, by simp, rfl⟩, hb⟩

theorem ite_t {α : Type} {b : Bool} {x y : α} (h : b = true) : (if b = true then x else y) = x := if_pos h
theorem ite_f {α : Type} {b : Bool} {x y : α} (h : b = false) : (if b = true then x else y) = y := by rw [h]; rfl
theorem word1 (l : List UInt8) (c : UInt8) : wordL [c] l = if hd l c = true then some 1 else none := by
  unfold wordL
  cases l with
  | nil => simp [hd]
  | cons x r => simp [hd]
theorem sk_dr (s : ByteArray) (a : Nat) : sk (dr s a) = dr s (a + blN (dr s a)) := by unfold sk; rw [dr_dr]
theorem vat_val {s : ByteArray} {a p : Nat} {g : Nat} (h : p < s.size) (hp : a + blN (dr s a) = p) : vat (valL (g + 1)) s a =
    if ((s[p].toNat : Int) == 110) = true then (wordL [110, 117, 108, 108] (dr s p)).map (fun n => (p + n, 0))
    else if ((s[p].toNat : Int) == 116) = true then (wordL [116, 114, 117, 101] (dr s p)).map (fun n => (p + n, 0))
    else if ((s[p].toNat : Int) == 102) = true then (wordL [102, 97, 108, 115, 101] (dr s p)).map (fun n => (p + n, 0))
    else if ((s[p].toNat : Int) == 34) = true then (strL (dr s p)).map (fun n => (p + n, 0))
    else if ((s[p].toNat : Int) == 91) = true then vat (manyL g 93) s (p + 1)
    else if ((s[p].toNat : Int) == 123) = true then vat (manyL g 125) s (p + 1)
    else (numL (dr s p)).map (fun n => (p + n, 0)) := by
  have hs : sk (dr s a) = s[p] :: dr s (p + 1) := by rw [sk_dr, hp]; exact drop_cons s p h
  have hd : dr s p = s[p] :: dr s (p + 1) := drop_cons s p h
  have e : ∀ (n : UInt8) (m : Int), (n.toNat : Int) = m → ((s[p] = n) ↔ ((s[p].toNat : Int) = m)) := fun n m h => by rw [← UInt8.toNat_inj]; omega
  unfold vat
  rw [valL_eq hs, hd]
  simp only [beq_iff_eq, e 110 110 rfl, e 116 116 rfl, e 102 102 rfl, e 34 34 rfl, e 91 91 rfl, e 123 123 rfl]
  have k1 : ∀ o : Option Nat, (o.map (fun n => (blN (dr s a) + n, 0))).map (fun x : Nat × Nat => (a + x.1, x.2)) = o.map (fun n => (p + n, 0)) := by
    intro o; cases o with
    | none => rfl
    | some n => simp only [Option.map_some]; rw [← hp, Nat.add_assoc]
  have k2 : ∀ o : Option (Nat × Nat), (o.map (fun x => (blN (dr s a) + 1 + x.1, x.2))).map (fun x : Nat × Nat => (a + x.1, x.2)) = o.map (fun x => (p + 1 + x.1, x.2)) := by
    intro o; cases o with
    | none => rfl
    | some n => simp only [Option.map_some]; congr 2; omega
  by_cases c1 : (s[p].toNat : Int) = 110
  · rw [if_pos c1, if_pos c1]; exact k1 _
  · rw [if_neg c1, if_neg c1]
    by_cases c2 : (s[p].toNat : Int) = 116
    · rw [if_pos c2, if_pos c2]; exact k1 _
    · rw [if_neg c2, if_neg c2]
      by_cases c3 : (s[p].toNat : Int) = 102
      · rw [if_pos c3, if_pos c3]; exact k1 _
      · rw [if_neg c3, if_neg c3]
        by_cases c4 : (s[p].toNat : Int) = 34
        · rw [if_pos c4, if_pos c4]; exact k1 _
        · rw [if_neg c4, if_neg c4]
          by_cases c5 : (s[p].toNat : Int) = 91
          · rw [if_pos c5, if_pos c5]; exact k2 _
          · rw [if_neg c5, if_neg c5]
            by_cases c6 : (s[p].toNat : Int) = 123
            · rw [if_pos c6, if_pos c6]; exact k2 _
            · rw [if_neg c6, if_neg c6]; exact k1 _
theorem vat_end {s : ByteArray} {a p : Nat} {g : Nat} (h : s.size ≤ p) (hp : a + blN (dr s a) = p) : vat (valL (g + 1)) s a = none := by
  unfold vat
  have : (dr s a).drop (blN (dr s a)) = [] := by rw [dr_dr, hp]; exact drop_nil s p h
  rw [valL]; simp [this]
theorem vat_item93 {s : ByteArray} {a : Nat} {g : Nat} : vat (itemL (g + 1) 93) s a = vat (valL g) s a := by
  unfold vat; rw [itemL, if_pos rfl]
theorem vat_item_no {s : ByteArray} {a p : Nat} {g : Nat} (hp : a + blN (dr s a) = p) (h : strL (dr s p) = none) : vat (itemL (g + 1) 125) s a = none := by
  unfold vat; rw [itemL, if_neg (by decide), dr_dr, hp, h]; rfl
theorem vat_item_nc {s : ByteArray} {a p k q : Nat} {g : Nat} (hp : a + blN (dr s a) = p) (h : strL (dr s p) = some k) (hq : p + k + blN (dr s (p + k)) = q) (hc : hd (dr s q) 58 = false) : vat (itemL (g + 1) 125) s a = none := by
  unfold vat; rw [itemL, if_neg (by decide)]
  simp only [dr_dr]
  rw [hp]; simp only [h]
  rw [← Nat.add_assoc, ← Nat.add_assoc, hp, hq, hc]; rfl
theorem vat_item_c {s : ByteArray} {a p k q : Nat} {g : Nat} (hp : a + blN (dr s a) = p) (h : strL (dr s p) = some k) (hq : p + k + blN (dr s (p + k)) = q) (hc : hd (dr s q) 58 = true) : vat (itemL (g + 1) 125) s a = vat (valL g) s (q + 1) := by
  unfold vat; rw [itemL, if_neg (by decide)]
  simp only [dr_dr]
  rw [hp]; simp only [h]
  rw [show a + (blN (dr s a) + k) = p + k by omega, show a + (blN (dr s a) + k + blN (dr s (p + k))) = q by omega, if_pos hc, show a + (blN (dr s a) + k + blN (dr s (p + k)) + 1) = q + 1 by omega]
  cases valL g (dr s (q + 1)) with
  | none => rfl
  | some x => simp only [Option.map_some]; congr 2; omega
theorem vat_many_end {s : ByteArray} {a p : Nat} {z : UInt8} {g : Nat} (hp : a + blN (dr s a) = p) (h : hd (dr s p) z = true) : vat (manyL (g + 1) z) s a = some (p + 1, 1) := by
  unfold vat; rw [manyL, dr_dr, hp, if_pos h]; simp only [Option.map_some]; congr 2; omega
theorem vat_many {s : ByteArray} {a p : Nat} {z : UInt8} {g : Nat} (hp : a + blN (dr s a) = p) (h : hd (dr s p) z = false) : vat (manyL (g + 1) z) s a = vat (fun l => itemsL g z l 0) s p := by
  unfold vat; rw [manyL, dr_dr, hp, h]
  simp only [Bool.false_eq_true, if_false]
  cases itemsL g z (dr s p) 0 with
  | none => rfl
  | some x => simp only [Option.map_some]; congr 2; omega
theorem vat_items_no {s : ByteArray} {a : Nat} {z : UInt8} {g d : Nat} (h : vat (itemL g z) s a = none) : vat (fun l => itemsL (g + 1) z l d) s a = none := by
  unfold vat at *; show (itemsL (g + 1) z (dr s a) d).map _ = _; rw [itemsL, Option.map_eq_none_iff.1 h]; rfl
theorem vat_items_end {s : ByteArray} {a q e p : Nat} {z : UInt8} {g d : Nat} (h : vat (itemL g z) s a = some (q, e)) (hp : q + blN (dr s q) = p) (hz : hd (dr s p) z = true) : vat (fun l => itemsL (g + 1) z l d) s a = some (p + 1, max d e + 1) := by
  obtain ⟨⟨n, e'⟩, hn, he⟩ := Option.map_eq_some_iff.1 h
  simp only [Prod.mk.injEq] at he
  obtain ⟨rfl, rfl⟩ := he
  obtain ⟨r, hr⟩ := hd_cons hz
  unfold vat; show (itemsL (g + 1) z (dr s a) d).map _ = _; rw [itemsL, hn]
  simp only [dr_dr]
  rw [hp, hr]
  simp only [if_true, Option.map_some]; congr 2; omega
theorem vat_items_bad {s : ByteArray} {a q e p : Nat} {z : UInt8} {g d : Nat} (h : vat (itemL g z) s a = some (q, e)) (hp : q + blN (dr s q) = p) (hz : hd (dr s p) z = false) (hc : hd (dr s p) 44 = false) : vat (fun l => itemsL (g + 1) z l d) s a = none := by
  obtain ⟨⟨n, e'⟩, hn, he⟩ := Option.map_eq_some_iff.1 h
  simp only [Prod.mk.injEq] at he
  obtain ⟨rfl, rfl⟩ := he
  unfold vat; show (itemsL (g + 1) z (dr s a) d).map _ = _; rw [itemsL, hn]
  simp only [dr_dr]
  rw [hp]
  cases hl : dr s p with
  | nil => rfl
  | cons c r =>
    rw [hl] at hz hc
    simp only [hd, beq_eq_false_iff_ne] at hz hc
    simp only [if_neg hz, if_neg hc]; rfl
theorem vat_items_more {s : ByteArray} {a q e p : Nat} {z : UInt8} {g d : Nat} (h : vat (itemL g z) s a = some (q, e)) (hp : q + blN (dr s q) = p) (hz : hd (dr s p) z = false) (hc : hd (dr s p) 44 = true) : vat (fun l => itemsL (g + 1) z l d) s a = vat (fun l => itemsL g z l (max d e)) s (p + 1) := by
  obtain ⟨⟨n, e'⟩, hn, he⟩ := Option.map_eq_some_iff.1 h
  simp only [Prod.mk.injEq] at he
  obtain ⟨rfl, rfl⟩ := he
  obtain ⟨r, hr⟩ := hd_cons hc
  have hr2 : dr s (p + 1) = r := by rw [← dr_dr, hr]; rfl
  rw [hr] at hz
  simp only [hd, beq_eq_false_iff_ne] at hz
  unfold vat; show (itemsL (g + 1) z (dr s a) d).map _ = _; rw [itemsL, hn]
  simp only [dr_dr]
  rw [hp, hr, hr2]
  simp only [if_neg hz, if_true]
  cases itemsL g z r (max d e') with
  | none => rfl
  | some x => simp only [Option.map_some]; congr 2; omega
/-- Bounds of what is told. -/
theorem blN_bd (s : ByteArray) (a : Nat) (h : a ≤ s.size) : a + blN (dr s a) ≤ s.size := by
  have := blN_le (dr s a)
  rw [dr, List.length_drop, show s.data.toList.length = s.size by simp] at this
  unfold dr; omega
theorem vat_bd {f : List UInt8 → Option (Nat × Nat)} (hf : ∀ l n d, f l = some (n, d) → n ≤ l.length) {s : ByteArray} {a q d : Nat} (ha : a ≤ s.size) (h : vat f s a = some (q, d)) : a ≤ q ∧ q ≤ s.size := by
  obtain ⟨⟨n, e'⟩, hn, he⟩ := Option.map_eq_some_iff.1 h
  simp only [Prod.mk.injEq] at he
  have := hf _ _ _ hn
  rw [dr, List.length_drop, show s.data.toList.length = s.size by simp] at this
  omega
theorem valL_bd (f : Nat) : ∀ l n d, valL f l = some (n, d) → n ≤ l.length := fun l n d h => by
  obtain ⟨cs, ht, _⟩ := (all_ok f).1 l n d h; exact ht.1
theorem itemL_bd (f : Nat) {z : UInt8} (hz : z = 93 ∨ z = 125) : ∀ l n d, itemL f z l = some (n, d) → n ≤ l.length := fun l n d h => by
  obtain ⟨cs, ht, _⟩ := (all_ok f).2.1 z l n d hz h; exact ht.1
/-- How deep: no deeper than bytes. -/
def DpV (f : Nat) : Prop := ∀ l n d, valL f l = some (n, d) → d ≤ n
def DpI (f : Nat) : Prop := ∀ z l n d, itemL f z l = some (n, d) → d ≤ n
def DpS (f : Nat) : Prop := ∀ z l d0 n d, itemsL f z l d0 = some (n, d) → d ≤ d0 + n
def DpM (f : Nat) : Prop := ∀ z l n d, manyL f z l = some (n, d) → d ≤ n
theorem all_dp : ∀ f, DpV f ∧ DpI f ∧ DpS f ∧ DpM f
  | 0 => ⟨fun l n d h => by simp [valL] at h, fun z l n d h => by simp [itemL] at h, fun z l d0 n d h => by simp [itemsL] at h, fun z l n d h => by simp [manyL] at h⟩
  | f + 1 => by
    obtain ⟨hV, hI, hS, hM⟩ := all_dp f
    refine ⟨?_, ?_, ?_, ?_⟩
    · intro l n d h
      cases hr : sk l with
      | nil => unfold sk at hr; rw [valL] at h; simp [hr] at h
      | cons c r =>
        rw [valL_eq hr] at h
        have k1 : ∀ {o : Option Nat}, o.map (fun n => (blN l + n, 0)) = some (n, d) → d ≤ n := by
          intro o ho; obtain ⟨m, _, e⟩ := Option.map_eq_some_iff.1 ho; cases e; omega
        have k2 : ∀ {z : UInt8}, (manyL f z r).map (fun x => (blN l + 1 + x.1, x.2)) = some (n, d) → d ≤ n := by
          intro z ho; obtain ⟨⟨m, e'⟩, hm, e⟩ := Option.map_eq_some_iff.1 ho; cases e
          have := hM z r m e' hm
          simp only; omega
        split at h
        · exact k1 h
        · split at h
          · exact k1 h
          · split at h
            · exact k1 h
            · split at h
              · exact k1 h
              · split at h
                · exact k2 h
                · split at h
                  · exact k2 h
                  · exact k1 h
    · intro z l n d h
      rw [itemL] at h
      split at h
      · exact hV l n d h
      · split at h
        · cases h
        · split at h
          · obtain ⟨⟨m, e'⟩, hm, e⟩ := Option.map_eq_some_iff.1 h; cases e
            have := hV _ m e' hm; simp only; omega
          · cases h
    · intro z l d0 n d h
      rw [itemsL] at h
      split at h
      · cases h
      · rename_i m e' hm
        have h1 := hI z l m e' hm
        split at h
        · cases h
        · split at h
          · cases h; omega
          · split at h
            · obtain ⟨⟨j, e''⟩, hj, e⟩ := Option.map_eq_some_iff.1 h; cases e
              have := hS z _ _ j e'' hj; simp only; omega
            · cases h
    · intro z l n d h
      rw [manyL] at h
      split at h
      · cases h; omega
      · obtain ⟨⟨m, e'⟩, hm, e⟩ := Option.map_eq_some_iff.1 h; cases e
        have := hS z _ _ m e' hm; simp only; omega
theorem vat_dp {f : List UInt8 → Option (Nat × Nat)} (hf : ∀ l n d, f l = some (n, d) → d ≤ n) {s : ByteArray} {a q d : Nat} (h : vat f s a = some (q, d)) : d ≤ q := by
  obtain ⟨⟨n, e'⟩, hn, he⟩ := Option.map_eq_some_iff.1 h
  simp only [Prod.mk.injEq] at he
  have := hf _ _ _ hn
  omega

end Go.Proofs.Ytppeahlnpidheaa
