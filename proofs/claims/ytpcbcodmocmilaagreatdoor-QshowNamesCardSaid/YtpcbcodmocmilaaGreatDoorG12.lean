/- G12: Qg0, Qg joined. -/
import Derived.Deep.LoopGhost
import Derived.Test.YtpcbcodmocmilaaGreatDoorQf
namespace Go.Proofs.YtpcbcodmocmilaaGreatDoor
open Go.RowKit
/- Rows that grow, of elements that lie in memory themselves. -/
section
open Go.RowKit

abbrev Rel (α : Type) := (Nat → Prop) → Nat → World → List Value → α → Prop
/-- A relation that keeps. -/
structure RelOk {α : Type} (k : Nat) (R : Rel α) : Prop where
  keep : ∀ {K K' : Nat → Prop} {m m' : Nat} {w w' : World} {cs : List Value} {x : α}, R K m w cs x → Kp K K' w w' → m ≤ m' → R K' m' w' cs x
  len : ∀ {K : Nat → Prop} {m : Nat} {w : World} {cs : List Value} {x : α}, R K m w cs x → cs.length = k
def RSel : Rel SelT := fun K m w cs x => SelC K (ExR K m w) w cs x
def RSeg : Rel SegT := fun K m w cs x => SegC K (ExR K m w) w cs x
def REx : Rel ExprT := fun K m w cs x => ExR K m w cs x
theorem RSel_ok : RelOk 9 RSel := ⟨fun h hk hm => SelC.keep h hk fun _ _ h => ExR.keep hk _ _ hm _ _ h, fun ⟨_, h, _⟩ => by rw [h]; rfl⟩
theorem RSeg_ok : RelOk 2 RSeg := ⟨fun h hk hm => SegC.keep h hk fun _ _ h => ExR.keep hk _ _ hm _ _ h, fun ⟨_, h, _⟩ => by rw [h]; rfl⟩
theorem REx_ok : RelOk 17 REx := ⟨fun h hk hm => ExR.keep hk _ _ hm _ _ h, fun {K m w cs x} h => by
  cases m with
  | zero => exact h.elim
  | succ m => obtain ⟨kv, qv, lv, rv, h, _⟩ := h; rw [h]; rfl⟩
theorem flat_at : ∀ (css : List (List Value)) (k : Nat), (∀ cs ∈ css, cs.length = k) → ∀ (i j : Nat), j < k → css.flatten[i * k + j]? = (css[i]?).bind fun cs => cs[j]?
  | [], _, _, _, _, _ => by simp
  | cs :: r, k, h, 0, j, hj => by
    rw [List.flatten_cons, List.getElem?_append_left (by rw [h cs (by simp)]; omega)]; simp
  | cs :: r, k, h, i + 1, j, hj => by
    rw [List.flatten_cons, List.getElem?_append_right (by rw [h cs (by simp), Nat.add_mul]; omega), h cs (by simp), show (i + 1) * k + j - k = i * k + j by rw [Nat.add_mul]; omega, flat_at r k (fun c hc => h c (by simp [hc])) i j hj]
    simp
/-- A row that grows, its elements in other blocks. -/
structure BRow {α : Type} (k : Nat) (T : TypeId) (R : Rel α) (m : Nat) (w0 wr : World) (v : Value) (l : List α) (css : List (List Value)) : Prop where
  len : css.length = l.length
  rel : ∀ (i : Nat) (cs : List Value) (x : α), css[i]? = some cs → l[i]? = some x → R (fun b => w0.heap.size ≤ b ∧ v.ownBlock ≠ some b) m wr cs x
  each : ∀ cs ∈ css, cs.length = k
  own : wr.ownsRow w0.heap.size T k v l.length css.flatten
  size : w0.heap.size ≤ wr.heap.size
section
variable {α : Type} {k : Nat} {T : TypeId} {R : Rel α} {m : Nat} {w0 wr w2 : World} {v : Value} {l : List α} {css : List (List Value)}
theorem BRow.nil (k : Nat) (T : TypeId) (R : Rel α) (m : Nat) (hs : w0.heap.size ≤ wr.heap.size) : BRow k T R m w0 wr (.slice none 0 0) ([] : List α) [] :=
  ⟨rfl, fun i cs x h _ => by simp at h, fun cs h => by simp at h, World.ownsRow_nil _ _ _ _, hs⟩
theorem BRow.one (hR : RelOk k R) {K : Nat → Prop} {cs : List Value} {x : α} (h : R K m w2 cs x) (hK : ∀ b, K b → b < w2.heap.size → w0.heap.size ≤ b) (hs : w0.heap.size ≤ w2.heap.size) (T : TypeId) :
    BRow k T R m w0 (w2.alloc (.cells cs.toArray T)) (.slice (some ⟨w2.heap.size, 0, none⟩) 1 1) [x] [cs] := by
  refine ⟨rfl, ?_, ?_, ?_, by simp; omega⟩
  · intro i cs' x' h1 h2
    cases i with
    | zero =>
      cases h1; cases h2
      refine hR.keep h (Kp.alloc (Kp.id_ fun b hb hl => ⟨hK b hb hl, ?_⟩) _) (Nat.le_refl _)
      simp only [Value.ownBlock, ne_eq, Option.some.injEq]; omega
    | succ i => simp at h1
  · intro c hc; simp at hc; subst hc; exact hR.len h
  · have := World.ownsRow_lit (base := w0.heap.size) (e := T) (size := k) w2 cs.toArray 1 hs (by unfold maxLen; omega) (by simp [hR.len h])
    simpa using this
theorem BRow.keepB (hR : RelOk k R) (h : BRow k T R m w0 wr v l css) (hb : ∀ b, w0.heap.size ≤ b → b < wr.heap.size → w2.heap[b]? = wr.heap[b]?) (hs : wr.heap.size ≤ w2.heap.size) : BRow k T R m w0 w2 v l css := by
  refine ⟨h.len, fun i cs x h1 h2 => hR.keep (h.rel i cs x h1 h2) ⟨hs, fun b hK hl => ⟨hK, hb b hK.1 hl⟩⟩ (Nat.le_refl _), h.each, ⟨h.own.1, ?_⟩, Nat.le_trans h.size hs⟩
  rcases h.own.2 with h' | ⟨g, cap, cur, h1, h2, h3, h4⟩
  · exact .inl h'
  · exact .inr ⟨g, cap, cur, h1, h2, (hb g h2 (Array.getElem?_eq_some_iff.1 h3).1).trans h3, h4⟩
theorem BRow.ex (hR : RelOk k R) {g : Nat} (h : BRow k T R m w0 wr v l css) (hx : Ex g wr w2) (hg : g < w0.heap.size) : BRow k T R m w0 w2 v l css :=
  h.keepB hR (fun b hb hl => hx.block b hl (by omega)) hx.size
theorem BRow.bel (hR : RelOk k R) (h : BRow k T R m w0 wr v l css) (hx : Bel wr.heap.size wr w2) : BRow k T R m w0 w2 v l css :=
  h.keepB hR (fun b _ hl => hx.block b hl) hx.size
theorem BRow.snoc (hR : RelOk k R) {w3 w4 : World} {v' : Value} {K : Nat → Prop} {mn : Nat} {cs : List Value} {x : α} (h : BRow k T R m w0 w3 v l css) (hn : R K mn w3 cs x) (hK : ∀ b, K b → b < w3.heap.size → w0.heap.size ≤ b ∧ v.ownBlock ≠ some b)
    (ho : w4.ownsRow w0.heap.size T k v' (l.length + 1) (css.flatten ++ cs)) (hg : w3.grownBy w4 v.ownBlock) (hv : v'.ownBlock = v.ownBlock ∨ v'.ownBlock = some w3.heap.size) :
    BRow k T R (max m mn) w0 w4 v' (l ++ [x]) (css ++ [cs]) := by
  have hk : ∀ {K' : Nat → Prop}, (∀ b, K' b → b < w3.heap.size → w0.heap.size ≤ b ∧ v.ownBlock ≠ some b) → Kp K' (fun b => w0.heap.size ≤ b ∧ v'.ownBlock ≠ some b) w3 w4 := fun hK' => by
    refine ⟨hg.size, fun b hb hl => ?_⟩
    obtain ⟨h1, h2⟩ := hK' b hb hl
    refine ⟨⟨h1, ?_⟩, hg.block b hl (fun e => h2 e.symm)⟩
    rcases hv with hv | hv
    · rw [hv]; exact h2
    · rw [hv]; simp only [ne_eq, Option.some.injEq]; omega
  refine ⟨by simp [h.len], ?_, ?_, ?_, Nat.le_trans h.size hg.size⟩
  · intro i cs' x' h1 h2
    rcases Nat.lt_or_ge i css.length with hi | hi
    · rw [List.getElem?_append_left hi] at h1
      rw [List.getElem?_append_left (by rw [← h.len]; exact hi)] at h2
      exact hR.keep (h.rel i cs' x' h1 h2) (hk fun b hb _ => hb) (Nat.le_max_left _ _)
    · rw [List.getElem?_append_right hi] at h1
      rw [List.getElem?_append_right (by rw [← h.len]; exact hi), ← h.len] at h2
      obtain ⟨j, hj⟩ : ∃ j, i - css.length = j := ⟨_, rfl⟩
      rw [hj] at h1 h2
      cases j with
      | zero => cases h1; cases h2; exact hR.keep hn (hk hK) (Nat.le_max_right _ _)
      | succ j => simp at h1
  · intro c hc
    rcases List.mem_append.1 hc with hc | hc
    · exact h.each c hc
    · simp at hc; subst hc; exact hR.len hn
  · rw [List.flatten_append, List.flatten_singleton, List.length_append]
    exact ho
theorem BRow.done (hR : RelOk k R) (h : BRow k T R m w0 wr v l css) : ∃ A c, v = .slice A l.length c ∧ RowG (Fr w0) k (R (Fr w0) m wr) wr (.slice A l.length c) l := by
  have hw : ∀ {cs : List Value} {x : α}, R (fun b => w0.heap.size ≤ b ∧ v.ownBlock ≠ some b) m wr cs x → R (Fr w0) m wr cs x := fun h => hR.keep h (Kp.id_ fun b hb _ => hb.1) (Nat.le_refl _)
  rcases h.own.2 with ⟨hv, h0⟩ | ⟨g, cap, cur, hv, hb, hg, hle, hmx, _⟩
  · exact ⟨none, 0, by rw [hv, h0], none, 0, rfl, ⟨by omega, by omega⟩, .inl (List.eq_nil_of_length_eq_zero h0)⟩
  · refine ⟨some ⟨g, 0, none⟩, cap, hv, some ⟨g, 0, none⟩, cap, rfl, ⟨hle, by unfold maxLen at hmx; omega⟩, .inr ⟨g, 0, rfl, hb, (Array.getElem?_eq_some_iff.1 hg).1, fun i x hx => ?_⟩⟩
    have hi : i < css.length := by rw [h.len]; exact (List.getElem?_eq_some_iff.1 hx).1
    have hcs : css[i]? = some css[i] := List.getElem?_eq_getElem hi
    have hlen := h.each css[i] (List.getElem_mem hi)
    refine ⟨css[i], hlen, fun j u hu => ?_, hw (h.rel i _ x hcs hx)⟩
    have hj : j < k := by rw [← hlen]; exact (List.getElem?_eq_some_iff.1 hu).1
    have := h.own.cells (g := g) (by rw [hv]; rfl) (i * k + j) u (by rw [flat_at css k h.each i j hj, hcs]; exact hu)
    rw [add_lit] at this
    rw [show 0 + i * k + j = 0 + (i * k + j) by omega]; exact this
theorem BRow.blk (h : BRow k T R m w0 wr v l css) {b : Nat} (hb : v.ownBlock = some b) : w0.heap.size ≤ b ∧ b < wr.heap.size := h.own.lt b hb
end
theorem RSel_one {K : Nat → Prop} {m : Nat} {w : World} {cs : List Value} {x : SelT} (h : RSel K m w cs x) : ∀ u ∈ cs, u.oneCell' = true := by
  obtain ⟨pv, rfl, hp⟩ := h
  have hpv : pv.oneCell' = true := by
    cases hf : x.f with
    | none => rw [hf] at hp; rw [show pv = .pointer none from hp]; rfl
    | some e => rw [hf] at hp; obtain ⟨b, off, cs, h1, _⟩ := hp; rw [h1]; rfl
  intro u hu
  simp only [selL, List.mem_cons, List.not_mem_nil, or_false] at hu
  rcases hu with rfl | rfl | rfl | rfl | rfl | rfl | rfl | rfl | rfl <;> first | rfl | exact hpv
theorem RSeg_one {K : Nat → Prop} {m : Nat} {w : World} {cs : List Value} {x : SegT} (h : RSeg K m w cs x) : ∀ u ∈ cs, u.oneCell' = true := by
  obtain ⟨sv, rfl, hp⟩ := h
  obtain ⟨A, c, e⟩ := hp.slice
  intro u hu
  simp only [List.mem_cons, List.not_mem_nil, or_false] at hu
  rcases hu with rfl | rfl
  · rfl
  · rw [e]; rfl
theorem REx_one {K : Nat → Prop} {m : Nat} {w : World} {cs : List Value} {x : ExprT} (h : REx K m w cs x) : ∀ u ∈ cs, u.oneCell' = true := by
  cases m with
  | zero => exact h.elim
  | succ m =>
    obtain ⟨kv, qv, lv, rv, rfl, h2, h3, h4, h5⟩ := h
    obtain ⟨A1, c1, rfl⟩ := h2.slice
    obtain ⟨A2, c2, rfl⟩ := RowG.slice h3
    obtain ⟨A3, c3, rfl⟩ := RowG.slice h4
    obtain ⟨A4, c4, rfl⟩ := RowG.slice h5
    intro u hu
    simp only [exL, List.mem_cons, List.not_mem_nil, or_false] at hu
    rcases hu with rfl | rfl | rfl | rfl | rfl | rfl | rfl | rfl | rfl | rfl | rfl | rfl | rfl | rfl | rfl | rfl | rfl <;> rfl
theorem info_sel : (Tryz.prog.info? 47).map (fun i => (i.zero, i.size, i.bytes)) = some (some (.agg #[.int .i64 0, .string ⟨#[]⟩, .int .i64 0, .int .i64 0, .int .i64 0, .int .i64 0, .bool false, .bool false, .pointer none]), 9, 72) := by kernel_rfl
theorem info_seg : (Tryz.prog.info? 44).map (fun i => (i.zero, i.size, i.bytes)) = some (some (.agg #[.bool false, .slice none 0 0]), 2, 32) := by kernel_rfl
theorem info_ex : (Tryz.prog.info? 106).map (fun i => (i.zero, i.size, i.bytes)) = some (some (.agg #[.int .i64 0, .slice none 0 0, .bool false, .slice none 0 0, .int .i64 0, .bool false, .int .i64 0, .int .i64 0, .string ⟨#[]⟩, .bool false, .slice none 0 0, .bool false, .int .i64 0, .int .i64 0, .string ⟨#[]⟩, .bool false, .slice none 0 0]), 17, 216) := by kernel_rfl

end
/- qtree: sels. -/
section
open Go.RowKit

theorem RdS.low {g : Nat} {E : Int} {w w' : World} {t : PSt} {d : Nat} (h : RdS g E w t d) (hb : ∀ k, k ≤ g → w'.heap[k]? = w.heap[k]?) : RdS g E w' t d := by
  obtain ⟨A, c, h1, h2, h3, h4, h5⟩ := h
  exact ⟨A, c, (hb g (Nat.le_refl _)).trans h1, h2, h3, h4, h5.keep fun k hk => hb k (by omega)⟩
theorem RdS.grown {g : Nat} {E : Int} {w w' : World} {t : PSt} {d : Nat} {row : Option Nat} (h : RdS g E w t d) (hg : w.grownBy w' row) (hr : ∀ k, row = some k → g < k) : RdS g E w' t d :=
  h.low fun k hk => hg.block k (Nat.lt_of_le_of_lt hk h.lt) (fun e => by have := hr k e.symm; omega)
theorem Ex.grown {g : Nat} {a w w' : World} {row : Option Nat} (h : Ex g a w) (hg : w.grownBy w' row) (hr : ∀ k, row = some k → a.heap.size ≤ k) : Ex g a w' :=
  ⟨hg.os.trans h.os, hg.output.trans h.output, Nat.le_trans h.size hg.size, fun k hk hkg => (hg.block k (Nat.lt_of_lt_of_le hk h.size) (fun e => by have := hr k e.symm; omega)).trans (h.block k hk hkg)⟩
theorem RdS.bound {g : Nat} {E : Int} {w : World} {t : PSt} {d : Nat} (h : RdS g E w t d) : t.toks.length ≤ 1000000 := by
  obtain ⟨A, c, _, h2, h3, _⟩ := h; omega
theorem SelC.ptr {K : Nat → Prop} {R : List Value → ExprT → Prop} {w : World} {x : SelT} {pv : Value} (h : SelC K R w (selL x pv) x) : ∃ p, pv = .pointer p := by
  obtain ⟨pv', h1, h2⟩ := h
  unfold selL at h1
  simp only [List.cons.injEq, true_and, and_true] at h1
  subst h1
  cases hf : x.f with
  | none => rw [hf] at h2; exact ⟨none, h2⟩
  | some e => rw [hf] at h2; obtain ⟨b, off, cs, h1, _⟩ := h2; exact ⟨_, h1⟩
theorem kindS_bad {t : PSt} (h : t.fe ≠ 0) : kindS t = 0 := by unfold kindS; rw [hdT_bad h]; rfl
theorem mustS_bad {E : Int} {l : List UInt8} {t : PSt} (h : t.fe ≠ 0) : mustS E l t = t := by unfold mustS; rw [isS_bad l h]; exact formS_bad h
theorem selF_bad {E : Int} {P : Nat → PSt → ExprT × PSt} {d : Nat} {t : PSt} (h : t.fe ≠ 0) : (selF E P d t).2 = t := by
  unfold selF
  rw [if_neg (by rw [kindS_bad h]; decide), ite_ff (isS_bad _ h), ite_ff (isS_bad _ h), ite_ff (by rw [kindS_bad h, isS_bad _ h]; rfl)]
  exact formS_bad h
def SelsP (g : Nat) (E : Int) (w : World) (r : List SelT × PSt) (d : Nat) (e : Ending) (w' : World) : Prop :=
  ∃ m A c, e = .returned (.slice A r.1.length c) ∧ RowG (Fr w) 9 (RSel (Fr w) m w') w' (.slice A r.1.length c) r.1 ∧ RdS g E w' r.2 d ∧ Ex g w w'
theorem selsL_yes {E : Int} {P : Nat → PSt → ExprT × PSt} {d f : Nat} {t : PSt} (h : isS [44] t = true) : selsL E P d (f + 1) t = ((selF E P d (nextS E t)).1 :: (selsL E P d f (selF E P d (nextS E t)).2).1, (selsL E P d f (selF E P d (nextS E t)).2).2) := by rw [selsL, ite_tt h]
theorem selsL_no {E : Int} {P : Nat → PSt → ExprT × PSt} {d f : Nat} {t : PSt} (h : isS [44] t = false) : selsL E P d f t = ([], t) := by
  cases f with
  | zero => rfl
  | succ f => rw [selsL, ite_ff h]

set_option maxRecDepth 100000 in
set_option maxHeartbeats 4000000 in
theorem sels_any (g : Nat) (E : Int) (P : Nat → PSt → ExprT × PSt) (hL : LeP P) (N : Nat) (hP : OrC g E P N) (t : PSt) (d : Nat) (w : World) (h : RdS g E w t d) (hN : N ≤ d + 1) (hd : d ≤ 33) (hf : d = 33 → t.fe ≠ 0) :
    Calls Tryz.prog 79 #[.pointer (some ⟨g, 0, none⟩)] w (SelsP g E w (selsF E P d t) d) := by
  have hg := h.lt
  have HM := Lib.hid (must_any g E t d ⟨#[91]⟩ w h)
  have HS := Lib.hid (fun t w hr hf => sel_any g E P N hP t d w hr hN hd hf)
  have HMB := Lib.hid (mustS_le E [91] t)
  have HTB := Lib.hid h.bound
  have HF1 := Lib.hid (show d = 33 → (mustS E [91] t).fe ≠ 0 from fun e => by rw [mustS_bad (hf e)]; exact hf e)
  have HF2 := Lib.hid (show d = 33 → (selF E P d (mustS E [91] t)).2.fe ≠ 0 from fun e => by rw [selF_bad (HF1.out e)]; exact HF1.out e)
  have HLE := Lib.hid (fun t => selF_le hL d (E := E) t)
  unfold selsF
  obtain ⟨t1, ht1⟩ : ∃ t1, mustS E [91] t = t1 := ⟨_, rfl⟩
  have HM := Lib.hid (show Calls Tryz.prog 103 #[.pointer (some ⟨g, 0, none⟩), .string ⟨#[91]⟩] w fun e w' => e = .returned (.tuple #[]) ∧ RdS g E w' t1 d ∧ Ex g w w' by rw [← ht1]; exact HM.out)
  rw [ht1] at HF1 HF2 HMB ⊢
  obtain ⟨x0, t2, hx0⟩ : ∃ x0 t2, selF E P d t1 = (x0, t2) := ⟨_, _, rfl⟩
  have HX0 := Lib.hid hx0
  have HLE1 := Lib.hid (HLE.out t1)
  rw [hx0] at HF2 HLE1 ⊢
  simp only at HF2 HLE1 ⊢
  obtain ⟨i0, hi, hz0, hz1, hz2⟩ := info_parts info_sel
  clear h hf hx0 ht1 hP
  go_enter Tryz.func79, Tryz.ntmps79
  go_wp2_with (go_at_call 103; refine HM.out.mono ?_; rintro e w1 ⟨rfl, hr, hx⟩; have HS1 := Lib.hid (HS.out t1 w1 hr HF1.out); have HX1 := Lib.hid hx; clear hr hx)
  refine HS1.out.mono ?_
  rintro e w2 ⟨m, pv, rfl, hsc, hr, hx⟩
  rw [HX0.out] at hsc hr ⊢
  simp only at hsc hr ⊢
  obtain ⟨p, rfl⟩ := hsc.ptr
  have hs1 := HX1.out.size
  have hs2 := hx.size
  have HBR := Lib.hid (BRow.one RSel_ok (w0 := w) (show RSel (Fr w1) m w2 (selL x0 (.pointer p)) x0 from hsc) (fun b (hb : w1.heap.size ≤ b) _ => by omega) (by omega) 47)
  have HRD := Lib.hid (hr.alloc (.cells (selL x0 (.pointer p)).toArray 47))
  have HEX := Lib.hid ((HX1.out.trans hx).alloc (.cells (selL x0 (.pointer p)).toArray 47))
  unfold selV
  clear hsc hr hx HS1
  go_wp2
  unfold selL at HBR HRD HEX
  go_loopg [3] t2.toks.length (fun k v wr => ∃ (t' : PSt) (l : List SelT) (css : List (List Value)) (m f : Nat), k = t'.toks.length ∧ t'.toks.length ≤ f ∧ l.length + t'.toks.length ≤ 1000001 ∧ Hid (BRow 9 47 RSel m w wr v l css) ∧ Hid (RdS g E wr t' d) ∧ Hid (Ex g w wr) ∧ Hid (d = 33 → t'.fe ≠ 0) ∧ Hid (((x0 :: (selsL E P d t2.toks.length t2).1, mustS E [93] (selsL E P d t2.toks.length t2).2) : List SelT × PSt) = (l ++ (selsL E P d f t').1, mustS E [93] (selsL E P d f t').2)))
  case atStart => exact ⟨t2, [x0], [_], m, t2.toks.length, rfl, Nat.le_refl _, by have := HMB.out; have := HTB.out; have := HLE1.out; simp; omega, HBR, HRD, HEX, HF2, Lib.hid rfl⟩
  case round =>
    clear HBR HRD HEX HF2 HF1 HMB HTB HLE1 HM HX1 hs1 hs2
    obtain ⟨t', l, css, m', f, hgk, hfl, hll, HBR, HRD, HEX, HFE, HEQ⟩ := hrel
    have HGK := Lib.hid hgk; clear hgk
    cases hb : isS [44] t' with
    | true =>
      have hd32 := is_deep hb hd HFE.out
      have hlt := is_lt (E := E) hb
      obtain ⟨f', rfl⟩ : ∃ f', f = f' + 1 := ⟨f - 1, by omega⟩
      have HEQ := Lib.hid (HEQ.out.trans (by rw [selsL_yes hb]))
      have HT := Lib.hid (take_yes g E t' d ⟨#[44]⟩ wr HRD.out (Lib.hid hb))
      have HLE2 := Lib.hid (HLE.out (nextS E t'))
      obtain ⟨x, t3, hx3⟩ : ∃ x t3, selF E P d (nextS E t') = (x, t3) := ⟨_, _, rfl⟩
      have HX3 := Lib.hid hx3
      rw [hx3] at HEQ HLE2
      simp only at HEQ HLE2
      have HLT := Lib.hid hlt
      clear hb hx3 hlt HLE
      go_wp2_with (go_at_call 81; refine HT.out.mono ?_; rintro e w4 ⟨rfl, hr, hx⟩; have HS4 := Lib.hid (HS.out (nextS E t') w4 hr (fun e => absurd e (by omega))); have HX4 := Lib.hid (HEX.out.trans hx); have HB4 := Lib.hid (HBR.out.ex RSel_ok hx hg); have hz4 := hx.size; clear hr hx)
      refine HS4.out.mono ?_
      rintro e w5 ⟨mn, pv, rfl, hsc, hr, hx⟩
      rw [HX3.out] at hsc hr ⊢
      simp only at hsc hr ⊢
      obtain ⟨p5, rfl⟩ := hsc.ptr
      have hz5 := hx.size
      have HX5 := Lib.hid (HX4.out.trans hx)
      have HB5 := Lib.hid ((HB4.out.ex RSel_ok hx hg).bel RSel_ok (bel_lit (o := .cells (selL x (.pointer p5)).toArray 47)))
      have HR5 := Lib.hid (hr.alloc (.cells (selL x (.pointer p5)).toArray 47))
      have HN5 := Lib.hid (show RSel (Fr w4) mn (w5.alloc (.cells (selL x (.pointer p5)).toArray 47)) (selL x (.pointer p5)) x from RSel_ok.keep (show RSel (Fr w4) mn w5 (selL x (.pointer p5)) x from hsc) ((Kp.id_ fun b hb _ => hb).alloc _) (Nat.le_refl _))
      have HK5 := Lib.hid (show ∀ b, Fr w4 b → b < (w5.alloc (.cells (selL x (.pointer p5)).toArray 47)).heap.size → w.heap.size ≤ b ∧ u3.ownBlock ≠ some b from fun b (hb : w4.heap.size ≤ b) _ => ⟨by have := HBR.out.size; omega, fun e => by have := (HBR.out.blk e).2; omega⟩)
      have hwz := HB5.out.size
      unfold selV
      clear hsc hr hx HS4 HB4
      go_wp2_with (at_builtin; refine wpList_append_any _ rfl (.tmp 11) (.tmp 14) 42 rfl w.heap.size 47 i0 _ 9 72 Tryz.underlying42 hi hz0 hz1 hz2 rfl (by decide) u3 l.length css.flatten rfl HB5.out.own (w5.heap.size + 1) (some ⟨w5.heap.size, 0, none⟩) 1 1 (selL x (.pointer p5)) rfl (reads_new w5 47 9 1 (selL x (.pointer p5)) rfl) (RSel_one HN5.out) (by unfold maxLen; omega) (by omega) hwz ?_; intro v' w7 hown7 hg7 hat7; have HB7 := Lib.hid (HB5.out.snoc RSel_ok HN5.out HK5.out hown7 hg7 hat7); have HR7 := Lib.hid (HR5.out.grown hg7 (fun k hk => by have := (HBR.out.blk hk).1; omega)); have HX7 := Lib.hid ((HX5.out.alloc (.cells (selL x (.pointer p5)).toArray 47)).grown hg7 (fun k hk => (HBR.out.blk hk).1)); clear hown7 hg7 hat7)
      go_roundg t3.toks.length
      case measure => have := HGK.out; have := HLT.out; have := HLE2.out; simp; omega
      case rel => exact ⟨t3, l ++ [x], _, _, f', rfl, by have := HLT.out; have := HLE2.out; omega, by have := HLT.out; have := HLE2.out; simp; omega, HB7, HR7, HX7, Lib.hid (fun e => absurd e (by omega)), Lib.hid (by rw [HEQ.out, List.append_assoc]; rfl)⟩
    | false =>
      have HT := Lib.hid (take_no g E t' d ⟨#[44]⟩ wr HRD.out (Lib.hid hb))
      have HE := Lib.hid (HEQ.out.trans (by rw [selsL_no hb, List.append_nil]))
      have HM2 := Lib.hid (must_any g E t' d ⟨#[93]⟩ wr HRD.out)
      obtain ⟨A, c, hv, _⟩ := HBR.out.done RSel_ok
      subst hv
      clear hb
      go_wp2_with (first | (go_at_call 81; refine HT.out.mono ?_; rintro e w' ⟨rfl, rfl⟩) | (go_at_call 103; refine HM2.out.mono ?_; rintro e w8 ⟨rfl, hr, hx⟩; have HB8 := Lib.hid (HBR.out.ex RSel_ok hx hg); have HR8 := Lib.hid hr; have HX8 := Lib.hid (HEX.out.trans hx); clear hr hx))
      go_ret
      obtain ⟨A', c', hv, hrow⟩ := HB8.out.done RSel_ok
      cases hv
      rw [HE.out]
      exact ⟨m', A, c, rfl, hrow, HR8.out, HX8.out⟩

end

end Go.Proofs.YtpcbcodmocmilaaGreatDoor
