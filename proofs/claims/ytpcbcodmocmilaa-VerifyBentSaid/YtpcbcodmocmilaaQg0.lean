/- Rows that grow, of elements that lie in memory themselves. -/
import Derived.Test.YtpcbcodmocmilaaG10
namespace Go.Proofs.Ytpcbcodmocmilaa
open Go.RowKit

abbrev Rel (α : Type) := (Nat → Prop) → Nat → World → List Value → α → Prop
/-- A relation that keeps. -/
structure RelOk {α : Type} (k : Nat) (R : Rel α) : Prop where
  keep : ∀ {K K' : Nat → Prop} {m m' : Nat} {w w' : World} {cs : List Value} {x : α}, R K m w cs x → Kp K K' w w' → m ≤ m' → R K' m' w' cs x
  len : ∀ {K : Nat → Prop} {m : Nat} {w : World} {cs : List Value} {x : α}, R K m w cs x → cs.length = k
def RSel : Rel SelT := fun K m w cs x => SelC K (ExR K m w) w cs x
def RSeg : Rel SegT := fun K m w cs x => SegC K (ExR K m w) w cs x
def REx : Rel ExprT := fun K m w cs x => ExR K m w cs x
theorem RSel_ok : RelOk 9 RSel := ⟨fun h hk hm => SelC.keep h hk fun _ _ h => ExR.keep hk _ _ hm _ _ h, fun ⟨_, h, _⟩ => by rw [h]; rfl⟩
theorem RSeg_ok : RelOk 2 RSeg := ⟨fun h hk hm => SegC.keep h hk fun _ _ h => ExR.keep hk _ _ hm _ _ h, fun ⟨_, h, _⟩ => by rw [h]; rfl⟩
theorem REx_ok : RelOk 17 REx := ⟨fun h hk hm => ExR.keep hk _ _ hm _ _ h, fun {K m w cs x} h => by
  cases m with
  | zero => exact h.elim
  | succ m => obtain ⟨kv, qv, lv, rv, h, _⟩ := h; rw [h]; rfl⟩
theorem flat_at : ∀ (css : List (List Value)) (k : Nat), (∀ cs ∈ css, cs.length = k) → ∀ (i j : Nat), j < k → css.flatten[i * k + j]? = (css[i]?).bind fun cs => cs[j]?
  | [], _, _, _, _, _ => by simp
  | cs :: r, k, h, 0, j, hj => by
    rw [List.flatten_cons, List.getElem?_append_left (by rw [h cs (by simp)]; omega)]; simp
  | cs :: r, k, h, i + 1, j, hj => by
    rw [List.flatten_cons, List.getElem?_append_right (by rw [h cs (by simp), Nat.add_mul]; omega), h cs (by simp), show (i + 1) * k + j - k = i * k + j by rw [Nat.add_mul]; omega, flat_at r k (fun c hc => h c (by simp [hc])) i j hj]
    simp
/-- A row that grows, its elements in other blocks. -/
structure BRow {α : Type} (k : Nat) (T : TypeId) (R : Rel α) (m : Nat) (w0 wr : World) (v : Value) (l : List α) (css : List (List Value)) : Prop where
  len : css.length = l.length
  rel : ∀ (i : Nat) (cs : List Value) (x : α), css[i]? = some cs → l[i]? = some x → R (fun b => w0.heap.size ≤ b ∧ v.ownBlock ≠ some b) m wr cs x
  each : ∀ cs ∈ css, cs.length = k
  own : wr.ownsRow w0.heap.size T k v l.length css.flatten
  size : w0.heap.size ≤ wr.heap.size
section
variable {α : Type} {k : Nat} {T : TypeId} {R : Rel α} {m : Nat} {w0 wr w2 : World} {v : Value} {l : List α} {css : List (List Value)}
theorem BRow.nil (k : Nat) (T : TypeId) (R : Rel α) (m : Nat) (hs : w0.heap.size ≤ wr.heap.size) : BRow k T R m w0 wr (.slice none 0 0) ([] : List α) [] :=
  ⟨rfl, fun i cs x h _ => by simp at h, fun cs h => by simp at h, World.ownsRow_nil _ _ _ _, hs⟩
theorem BRow.one (hR : RelOk k R) {K : Nat → Prop} {cs : List Value} {x : α} (h : R K m w2 cs x) (hK : ∀ b, K b → b < w2.heap.size → w0.heap.size ≤ b) (hs : w0.heap.size ≤ w2.heap.size) (T : TypeId) :
    BRow k T R m w0 (w2.alloc (.cells cs.toArray T)) (.slice (some ⟨w2.heap.size, 0, none⟩) 1 1) [x] [cs] := by
  refine ⟨rfl, ?_, ?_, ?_, by simp; omega⟩
  · intro i cs' x' h1 h2
    cases i with
    | zero =>
      cases h1; cases h2
      refine hR.keep h (Kp.alloc (Kp.id_ fun b hb hl => ⟨hK b hb hl, ?_⟩) _) (Nat.le_refl _)
      simp only [Value.ownBlock, ne_eq, Option.some.injEq]; omega
    | succ i => simp at h1
  · intro c hc; simp at hc; subst hc; exact hR.len h
  · have := World.ownsRow_lit (base := w0.heap.size) (e := T) (size := k) w2 cs.toArray 1 hs (by unfold maxLen; omega) (by simp [hR.len h])
    simpa using this
theorem BRow.keepB (hR : RelOk k R) (h : BRow k T R m w0 wr v l css) (hb : ∀ b, w0.heap.size ≤ b → b < wr.heap.size → w2.heap[b]? = wr.heap[b]?) (hs : wr.heap.size ≤ w2.heap.size) : BRow k T R m w0 w2 v l css := by
  refine ⟨h.len, fun i cs x h1 h2 => hR.keep (h.rel i cs x h1 h2) ⟨hs, fun b hK hl => ⟨hK, hb b hK.1 hl⟩⟩ (Nat.le_refl _), h.each, ⟨h.own.1, ?_⟩, Nat.le_trans h.size hs⟩
  rcases h.own.2 with h' | ⟨g, cap, cur, h1, h2, h3, h4⟩
  · exact .inl h'
  · exact .inr ⟨g, cap, cur, h1, h2, (hb g h2 (Array.getElem?_eq_some_iff.1 h3).1).trans h3, h4⟩
theorem BRow.ex (hR : RelOk k R) {g : Nat} (h : BRow k T R m w0 wr v l css) (hx : Ex g wr w2) (hg : g < w0.heap.size) : BRow k T R m w0 w2 v l css :=
  h.keepB hR (fun b hb hl => hx.block b hl (by omega)) hx.size
theorem BRow.bel (hR : RelOk k R) (h : BRow k T R m w0 wr v l css) (hx : Bel wr.heap.size wr w2) : BRow k T R m w0 w2 v l css :=
  h.keepB hR (fun b _ hl => hx.block b hl) hx.size
theorem BRow.snoc (hR : RelOk k R) {w3 w4 : World} {v' : Value} {K : Nat → Prop} {mn : Nat} {cs : List Value} {x : α} (h : BRow k T R m w0 w3 v l css) (hn : R K mn w3 cs x) (hK : ∀ b, K b → b < w3.heap.size → w0.heap.size ≤ b ∧ v.ownBlock ≠ some b)
    (ho : w4.ownsRow w0.heap.size T k v' (l.length + 1) (css.flatten ++ cs)) (hg : w3.grownBy w4 v.ownBlock) (hv : v'.ownBlock = v.ownBlock ∨ v'.ownBlock = some w3.heap.size) :
    BRow k T R (max m mn) w0 w4 v' (l ++ [x]) (css ++ [cs]) := by
  have hk : ∀ {K' : Nat → Prop}, (∀ b, K' b → b < w3.heap.size → w0.heap.size ≤ b ∧ v.ownBlock ≠ some b) → Kp K' (fun b => w0.heap.size ≤ b ∧ v'.ownBlock ≠ some b) w3 w4 := fun hK' => by
    refine ⟨hg.size, fun b hb hl => ?_⟩
    obtain ⟨h1, h2⟩ := hK' b hb hl
    refine ⟨⟨h1, ?_⟩, hg.block b hl (fun e => h2 e.symm)⟩
    rcases hv with hv | hv
    · rw [hv]; exact h2
    · rw [hv]; simp only [ne_eq, Option.some.injEq]; omega
  refine ⟨by simp [h.len], ?_, ?_, ?_, Nat.le_trans h.size hg.size⟩
  · intro i cs' x' h1 h2
    rcases Nat.lt_or_ge i css.length with hi | hi
    · rw [List.getElem?_append_left hi] at h1
      rw [List.getElem?_append_left (by rw [← h.len]; exact hi)] at h2
      exact hR.keep (h.rel i cs' x' h1 h2) (hk fun b hb _ => hb) (Nat.le_max_left _ _)
    · rw [List.getElem?_append_right hi] at h1
      rw [List.getElem?_append_right (by rw [← h.len]; exact hi), ← h.len] at h2
      obtain ⟨j, hj⟩ : ∃ j, i - css.length = j := ⟨_, rfl⟩
      rw [hj] at h1 h2
      cases j with
      | zero => cases h1; cases h2; exact hR.keep hn (hk hK) (Nat.le_max_right _ _)
      | succ j => simp at h1
  · intro c hc
    rcases List.mem_append.1 hc with hc | hc
    · exact h.each c hc
    · simp at hc; subst hc; exact hR.len hn
  · rw [List.flatten_append, List.flatten_singleton, List.length_append]
    exact ho
theorem BRow.done (hR : RelOk k R) (h : BRow k T R m w0 wr v l css) : ∃ A c, v = .slice A l.length c ∧ RowG (Fr w0) k (R (Fr w0) m wr) wr (.slice A l.length c) l := by
  have hw : ∀ {cs : List Value} {x : α}, R (fun b => w0.heap.size ≤ b ∧ v.ownBlock ≠ some b) m wr cs x → R (Fr w0) m wr cs x := fun h => hR.keep h (Kp.id_ fun b hb _ => hb.1) (Nat.le_refl _)
  rcases h.own.2 with ⟨hv, h0⟩ | ⟨g, cap, cur, hv, hb, hg, hle, hmx, _⟩
  · exact ⟨none, 0, by rw [hv, h0], none, 0, rfl, ⟨by omega, by omega⟩, .inl (List.eq_nil_of_length_eq_zero h0)⟩
  · refine ⟨some ⟨g, 0, none⟩, cap, hv, some ⟨g, 0, none⟩, cap, rfl, ⟨hle, by unfold maxLen at hmx; omega⟩, .inr ⟨g, 0, rfl, hb, (Array.getElem?_eq_some_iff.1 hg).1, fun i x hx => ?_⟩⟩
    have hi : i < css.length := by rw [h.len]; exact (List.getElem?_eq_some_iff.1 hx).1
    have hcs : css[i]? = some css[i] := List.getElem?_eq_getElem hi
    have hlen := h.each css[i] (List.getElem_mem hi)
    refine ⟨css[i], hlen, fun j u hu => ?_, hw (h.rel i _ x hcs hx)⟩
    have hj : j < k := by rw [← hlen]; exact (List.getElem?_eq_some_iff.1 hu).1
    have := h.own.cells (g := g) (by rw [hv]; rfl) (i * k + j) u (by rw [flat_at css k h.each i j hj, hcs]; exact hu)
    rw [add_lit] at this
    rw [show 0 + i * k + j = 0 + (i * k + j) by omega]; exact this
theorem BRow.blk (h : BRow k T R m w0 wr v l css) {b : Nat} (hb : v.ownBlock = some b) : w0.heap.size ≤ b ∧ b < wr.heap.size := h.own.lt b hb
end
theorem info_sel : (Try.prog.info? 92).map (fun i => (i.zero, i.size, i.bytes)) = some (some (.agg #[.int .i64 0, .string ⟨#[]⟩, .int .i64 0, .int .i64 0, .int .i64 0, .int .i64 0, .bool false, .bool false, .pointer none]), 9, 72) := by kernel_rfl
theorem info_seg : (Try.prog.info? 87).map (fun i => (i.zero, i.size, i.bytes)) = some (some (.agg #[.bool false, .slice none 0 0]), 2, 32) := by kernel_rfl
theorem info_ex : (Try.prog.info? 98).map (fun i => (i.zero, i.size, i.bytes)) = some (some (.agg #[.int .i64 0, .slice none 0 0, .bool false, .slice none 0 0, .int .i64 0, .bool false, .int .i64 0, .int .i64 0, .string ⟨#[]⟩, .bool false, .slice none 0 0, .bool false, .int .i64 0, .int .i64 0, .string ⟨#[]⟩, .bool false, .slice none 0 0]), 17, 216) := by kernel_rfl

end Go.Proofs.Ytpcbcodmocmilaa
