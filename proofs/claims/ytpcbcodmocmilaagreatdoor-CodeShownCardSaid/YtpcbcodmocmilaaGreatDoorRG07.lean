/- RG07: Qg0, Qg, Qh joined. -/
import Derived.Deep.LoopGhost
import Derived.Deep.RegionLaw
import Derived.Deep.DrawnRows
import Derived.Test.YtpcbcodmocmilaaGreatDoorRG06
namespace Go.Proofs.YtpcbcodmocmilaaGreatDoor
open Go.RowKit
/- Rows that grow, of elements that lie in memory themselves. -/
section
open Go.RowKit

abbrev Rel (α : Type) := (Nat → Prop) → Nat → World → List Value → α → Prop
/-- A relation that keeps. -/
structure RelOk {α : Type} (k : Nat) (R : Rel α) : Prop where
  keep : ∀ {K K' : Nat → Prop} {m m' : Nat} {w w' : World} {cs : List Value} {x : α}, R K m w cs x → Kp K K' w w' → m ≤ m' → R K' m' w' cs x
  len : ∀ {K : Nat → Prop} {m : Nat} {w : World} {cs : List Value} {x : α}, R K m w cs x → cs.length = k
def RSel : Rel SelT := fun K m w cs x => SelC K (ExR K m w) w cs x
def RSeg : Rel SegT := fun K m w cs x => SegC K (ExR K m w) w cs x
def REx : Rel ExprT := fun K m w cs x => ExR K m w cs x
theorem RSel_ok : RelOk 9 RSel := ⟨fun h hk hm => SelC.keep h hk fun _ _ h => ExR.keep hk _ _ hm _ _ h, fun ⟨_, h, _⟩ => by rw [h]; rfl⟩
theorem RSeg_ok : RelOk 2 RSeg := ⟨fun h hk hm => SegC.keep h hk fun _ _ h => ExR.keep hk _ _ hm _ _ h, fun ⟨_, h, _⟩ => by rw [h]; rfl⟩
theorem REx_ok : RelOk 17 REx := ⟨fun h hk hm => ExR.keep hk _ _ hm _ _ h, fun {K m w cs x} h => by
  cases m with
  | zero => exact h.elim
  | succ m => obtain ⟨kv, qv, lv, rv, h, _⟩ := h; rw [h]; rfl⟩
theorem flat_at : ∀ (css : List (List Value)) (k : Nat), (∀ cs ∈ css, cs.length = k) → ∀ (i j : Nat), j < k → css.flatten[i * k + j]? = (css[i]?).bind fun cs => cs[j]?
  | [], _, _, _, _, _ => by simp
  | cs :: r, k, h, 0, j, hj => by
    rw [List.flatten_cons, List.getElem?_append_left (by rw [h cs (by simp)]; omega)]; simp
  | cs :: r, k, h, i + 1, j, hj => by
    rw [List.flatten_cons, List.getElem?_append_right (by rw [h cs (by simp), Nat.add_mul]; omega), h cs (by simp), show (i + 1) * k + j - k = i * k + j by rw [Nat.add_mul]; omega, flat_at r k (fun c hc => h c (by simp [hc])) i j hj]
    simp
/-- A row that grows, its elements in other blocks. -/
structure BRow {α : Type} (k : Nat) (T : TypeId) (R : Rel α) (m : Nat) (w0 wr : World) (v : Value) (l : List α) (css : List (List Value)) : Prop where
  len : css.length = l.length
  rel : ∀ (i : Nat) (cs : List Value) (x : α), css[i]? = some cs → l[i]? = some x → R (fun b => w0.heap.size ≤ b ∧ v.ownBlock ≠ some b) m wr cs x
  each : ∀ cs ∈ css, cs.length = k
  own : wr.ownsRow w0.heap.size T k v l.length css.flatten
  size : w0.heap.size ≤ wr.heap.size
section
variable {α : Type} {k : Nat} {T : TypeId} {R : Rel α} {m : Nat} {w0 wr w2 : World} {v : Value} {l : List α} {css : List (List Value)}
theorem BRow.nil (k : Nat) (T : TypeId) (R : Rel α) (m : Nat) (hs : w0.heap.size ≤ wr.heap.size) : BRow k T R m w0 wr (.slice none 0 0) ([] : List α) [] :=
  ⟨rfl, fun i cs x h _ => by simp at h, fun cs h => by simp at h, World.ownsRow_nil _ _ _ _, hs⟩
theorem BRow.one (hR : RelOk k R) {K : Nat → Prop} {cs : List Value} {x : α} (h : R K m w2 cs x) (hK : ∀ b, K b → b < w2.heap.size → w0.heap.size ≤ b) (hs : w0.heap.size ≤ w2.heap.size) (T : TypeId) :
    BRow k T R m w0 (w2.alloc (.cells cs.toArray T)) (.slice (some ⟨w2.heap.size, 0, none⟩) 1 1) [x] [cs] := by
  refine ⟨rfl, ?_, ?_, ?_, by simp; omega⟩
  · intro i cs' x' h1 h2
    cases i with
    | zero =>
      cases h1; cases h2
      refine hR.keep h (Kp.alloc (Kp.id_ fun b hb hl => ⟨hK b hb hl, ?_⟩) _) (Nat.le_refl _)
      simp only [Value.ownBlock, ne_eq, Option.some.injEq]; omega
    | succ i => simp at h1
  · intro c hc; simp at hc; subst hc; exact hR.len h
  · have := World.ownsRow_lit (base := w0.heap.size) (e := T) (size := k) w2 cs.toArray 1 hs (by unfold maxLen; omega) (by simp [hR.len h])
    simpa using this
theorem BRow.keepB (hR : RelOk k R) (h : BRow k T R m w0 wr v l css) (hb : ∀ b, w0.heap.size ≤ b → b < wr.heap.size → w2.heap[b]? = wr.heap[b]?) (hs : wr.heap.size ≤ w2.heap.size) : BRow k T R m w0 w2 v l css := by
  refine ⟨h.len, fun i cs x h1 h2 => hR.keep (h.rel i cs x h1 h2) ⟨hs, fun b hK hl => ⟨hK, hb b hK.1 hl⟩⟩ (Nat.le_refl _), h.each, ⟨h.own.1, ?_⟩, Nat.le_trans h.size hs⟩
  rcases h.own.2 with h' | ⟨g, cap, cur, h1, h2, h3, h4⟩
  · exact .inl h'
  · exact .inr ⟨g, cap, cur, h1, h2, (hb g h2 (Array.getElem?_eq_some_iff.1 h3).1).trans h3, h4⟩
theorem BRow.ex (hR : RelOk k R) {g : Nat} (h : BRow k T R m w0 wr v l css) (hx : Ex g wr w2) (hg : g < w0.heap.size) : BRow k T R m w0 w2 v l css :=
  h.keepB hR (fun b hb hl => hx.block b hl (by omega)) hx.size
theorem BRow.bel (hR : RelOk k R) (h : BRow k T R m w0 wr v l css) (hx : Bel wr.heap.size wr w2) : BRow k T R m w0 w2 v l css :=
  h.keepB hR (fun b _ hl => hx.block b hl) hx.size
theorem BRow.snoc (hR : RelOk k R) {w3 w4 : World} {v' : Value} {K : Nat → Prop} {mn : Nat} {cs : List Value} {x : α} (h : BRow k T R m w0 w3 v l css) (hn : R K mn w3 cs x) (hK : ∀ b, K b → b < w3.heap.size → w0.heap.size ≤ b ∧ v.ownBlock ≠ some b)
    (ho : w4.ownsRow w0.heap.size T k v' (l.length + 1) (css.flatten ++ cs)) (hg : w3.grownBy w4 v.ownBlock) (hv : v'.ownBlock = v.ownBlock ∨ v'.ownBlock = some w3.heap.size) :
    BRow k T R (max m mn) w0 w4 v' (l ++ [x]) (css ++ [cs]) := by
  have hk : ∀ {K' : Nat → Prop}, (∀ b, K' b → b < w3.heap.size → w0.heap.size ≤ b ∧ v.ownBlock ≠ some b) → Kp K' (fun b => w0.heap.size ≤ b ∧ v'.ownBlock ≠ some b) w3 w4 := fun hK' => by
    refine ⟨hg.size, fun b hb hl => ?_⟩
    obtain ⟨h1, h2⟩ := hK' b hb hl
    refine ⟨⟨h1, ?_⟩, hg.block b hl (fun e => h2 e.symm)⟩
    rcases hv with hv | hv
    · rw [hv]; exact h2
    · rw [hv]; simp only [ne_eq, Option.some.injEq]; omega
  refine ⟨by simp [h.len], ?_, ?_, ?_, Nat.le_trans h.size hg.size⟩
  · intro i cs' x' h1 h2
    rcases Nat.lt_or_ge i css.length with hi | hi
    · rw [List.getElem?_append_left hi] at h1
      rw [List.getElem?_append_left (by rw [← h.len]; exact hi)] at h2
      exact hR.keep (h.rel i cs' x' h1 h2) (hk fun b hb _ => hb) (Nat.le_max_left _ _)
    · rw [List.getElem?_append_right hi] at h1
      rw [List.getElem?_append_right (by rw [← h.len]; exact hi), ← h.len] at h2
      obtain ⟨j, hj⟩ : ∃ j, i - css.length = j := ⟨_, rfl⟩
      rw [hj] at h1 h2
      cases j with
      | zero => cases h1; cases h2; exact hR.keep hn (hk hK) (Nat.le_max_right _ _)
      | succ j => simp at h1
  · intro c hc
    rcases List.mem_append.1 hc with hc | hc
    · exact h.each c hc
    · simp at hc; subst hc; exact hR.len hn
  · rw [List.flatten_append, List.flatten_singleton, List.length_append]
    exact ho
theorem BRow.done (hR : RelOk k R) (h : BRow k T R m w0 wr v l css) : ∃ A c, v = .slice A l.length c ∧ RowG (Fr w0) k (R (Fr w0) m wr) wr (.slice A l.length c) l := by
  have hw : ∀ {cs : List Value} {x : α}, R (fun b => w0.heap.size ≤ b ∧ v.ownBlock ≠ some b) m wr cs x → R (Fr w0) m wr cs x := fun h => hR.keep h (Kp.id_ fun b hb _ => hb.1) (Nat.le_refl _)
  rcases h.own.2 with ⟨hv, h0⟩ | ⟨g, cap, cur, hv, hb, hg, hle, hmx, _⟩
  · exact ⟨none, 0, by rw [hv, h0], none, 0, rfl, ⟨by omega, by omega⟩, .inl (List.eq_nil_of_length_eq_zero h0)⟩
  · refine ⟨some ⟨g, 0, none⟩, cap, hv, some ⟨g, 0, none⟩, cap, rfl, ⟨hle, by unfold maxLen at hmx; omega⟩, .inr ⟨g, 0, rfl, hb, (Array.getElem?_eq_some_iff.1 hg).1, fun i x hx => ?_⟩⟩
    have hi : i < css.length := by rw [h.len]; exact (List.getElem?_eq_some_iff.1 hx).1
    have hcs : css[i]? = some css[i] := List.getElem?_eq_getElem hi
    have hlen := h.each css[i] (List.getElem_mem hi)
    refine ⟨css[i], hlen, fun j u hu => ?_, hw (h.rel i _ x hcs hx)⟩
    have hj : j < k := by rw [← hlen]; exact (List.getElem?_eq_some_iff.1 hu).1
    have := h.own.cells (g := g) (by rw [hv]; rfl) (i * k + j) u (by rw [flat_at css k h.each i j hj, hcs]; exact hu)
    rw [add_lit] at this
    rw [show 0 + i * k + j = 0 + (i * k + j) by omega]; exact this
theorem BRow.blk (h : BRow k T R m w0 wr v l css) {b : Nat} (hb : v.ownBlock = some b) : w0.heap.size ≤ b ∧ b < wr.heap.size := h.own.lt b hb
end
theorem RSel_one {K : Nat → Prop} {m : Nat} {w : World} {cs : List Value} {x : SelT} (h : RSel K m w cs x) : ∀ u ∈ cs, u.oneCell' = true := by
  obtain ⟨pv, rfl, hp⟩ := h
  have hpv : pv.oneCell' = true := by
    cases hf : x.f with
    | none => rw [hf] at hp; rw [show pv = .pointer none from hp]; rfl
    | some e => rw [hf] at hp; obtain ⟨b, off, cs, h1, _⟩ := hp; rw [h1]; rfl
  intro u hu
  simp only [selL, List.mem_cons, List.not_mem_nil, or_false] at hu
  rcases hu with rfl | rfl | rfl | rfl | rfl | rfl | rfl | rfl | rfl <;> first | rfl | exact hpv
theorem RSeg_one {K : Nat → Prop} {m : Nat} {w : World} {cs : List Value} {x : SegT} (h : RSeg K m w cs x) : ∀ u ∈ cs, u.oneCell' = true := by
  obtain ⟨sv, rfl, hp⟩ := h
  obtain ⟨A, c, e⟩ := hp.slice
  intro u hu
  simp only [List.mem_cons, List.not_mem_nil, or_false] at hu
  rcases hu with rfl | rfl
  · rfl
  · rw [e]; rfl
theorem REx_one {K : Nat → Prop} {m : Nat} {w : World} {cs : List Value} {x : ExprT} (h : REx K m w cs x) : ∀ u ∈ cs, u.oneCell' = true := by
  cases m with
  | zero => exact h.elim
  | succ m =>
    obtain ⟨kv, qv, lv, rv, rfl, h2, h3, h4, h5⟩ := h
    obtain ⟨A1, c1, rfl⟩ := h2.slice
    obtain ⟨A2, c2, rfl⟩ := RowG.slice h3
    obtain ⟨A3, c3, rfl⟩ := RowG.slice h4
    obtain ⟨A4, c4, rfl⟩ := RowG.slice h5
    intro u hu
    simp only [exL, List.mem_cons, List.not_mem_nil, or_false] at hu
    rcases hu with rfl | rfl | rfl | rfl | rfl | rfl | rfl | rfl | rfl | rfl | rfl | rfl | rfl | rfl | rfl | rfl | rfl <;> rfl
theorem info_sel : (Tryz.prog.info? 47).map (fun i => (i.zero, i.size, i.bytes)) = some (some (.agg #[.int .i64 0, .string ⟨#[]⟩, .int .i64 0, .int .i64 0, .int .i64 0, .int .i64 0, .bool false, .bool false, .pointer none]), 9, 72) := by kernel_rfl
theorem info_seg : (Tryz.prog.info? 44).map (fun i => (i.zero, i.size, i.bytes)) = some (some (.agg #[.bool false, .slice none 0 0]), 2, 32) := by kernel_rfl
theorem info_ex : (Tryz.prog.info? 106).map (fun i => (i.zero, i.size, i.bytes)) = some (some (.agg #[.int .i64 0, .slice none 0 0, .bool false, .slice none 0 0, .int .i64 0, .bool false, .int .i64 0, .int .i64 0, .string ⟨#[]⟩, .bool false, .slice none 0 0, .bool false, .int .i64 0, .int .i64 0, .string ⟨#[]⟩, .bool false, .slice none 0 0]), 17, 216) := by kernel_rfl

end
/- qtree: sels. -/
section
open Go.RowKit

theorem RdS.low {g : Nat} {E : Int} {w w' : World} {t : PSt} {d : Nat} (h : RdS g E w t d) (hb : ∀ k, k ≤ g → w'.heap[k]? = w.heap[k]?) : RdS g E w' t d := by
  obtain ⟨A, c, h1, h2, h3, h4, h5⟩ := h
  exact ⟨A, c, (hb g (Nat.le_refl _)).trans h1, h2, h3, h4, h5.keep fun k hk => hb k (by omega)⟩
theorem RdS.grown {g : Nat} {E : Int} {w w' : World} {t : PSt} {d : Nat} {row : Option Nat} (h : RdS g E w t d) (hg : w.grownBy w' row) (hr : ∀ k, row = some k → g < k) : RdS g E w' t d :=
  h.low fun k hk => hg.block k (Nat.lt_of_le_of_lt hk h.lt) (fun e => by have := hr k e.symm; omega)
theorem Ex.grown {g : Nat} {a w w' : World} {row : Option Nat} (h : Ex g a w) (hg : w.grownBy w' row) (hr : ∀ k, row = some k → a.heap.size ≤ k) : Ex g a w' :=
  ⟨hg.os.trans h.os, hg.output.trans h.output, Nat.le_trans h.size hg.size, fun k hk hkg => (hg.block k (Nat.lt_of_lt_of_le hk h.size) (fun e => by have := hr k e.symm; omega)).trans (h.block k hk hkg)⟩
theorem RdS.bound {g : Nat} {E : Int} {w : World} {t : PSt} {d : Nat} (h : RdS g E w t d) : t.toks.length ≤ 1000000 := by
  obtain ⟨A, c, _, h2, h3, _⟩ := h; omega
theorem SelC.ptr {K : Nat → Prop} {R : List Value → ExprT → Prop} {w : World} {x : SelT} {pv : Value} (h : SelC K R w (selL x pv) x) : ∃ p, pv = .pointer p := by
  obtain ⟨pv', h1, h2⟩ := h
  unfold selL at h1
  simp only [List.cons.injEq, true_and, and_true] at h1
  subst h1
  cases hf : x.f with
  | none => rw [hf] at h2; exact ⟨none, h2⟩
  | some e => rw [hf] at h2; obtain ⟨b, off, cs, h1, _⟩ := h2; exact ⟨_, h1⟩
theorem kindS_bad {t : PSt} (h : t.fe ≠ 0) : kindS t = 0 := by unfold kindS; rw [hdT_bad h]; rfl
theorem mustS_bad {E : Int} {l : List UInt8} {t : PSt} (h : t.fe ≠ 0) : mustS E l t = t := by unfold mustS; rw [isS_bad l h]; exact formS_bad h
theorem selF_bad {E : Int} {P : Nat → PSt → ExprT × PSt} {d : Nat} {t : PSt} (h : t.fe ≠ 0) : (selF E P d t).2 = t := by
  unfold selF
  rw [if_neg (by rw [kindS_bad h]; decide), ite_ff (isS_bad _ h), ite_ff (isS_bad _ h), ite_ff (by rw [kindS_bad h, isS_bad _ h]; rfl)]
  exact formS_bad h
def SelsP (g : Nat) (E : Int) (w : World) (r : List SelT × PSt) (d : Nat) (e : Ending) (w' : World) : Prop :=
  ∃ m A c, e = .returned (.slice A r.1.length c) ∧ RowG (Fr w) 9 (RSel (Fr w) m w') w' (.slice A r.1.length c) r.1 ∧ RdS g E w' r.2 d ∧ Ex g w w'
theorem selsL_yes {E : Int} {P : Nat → PSt → ExprT × PSt} {d f : Nat} {t : PSt} (h : isS [44] t = true) : selsL E P d (f + 1) t = ((selF E P d (nextS E t)).1 :: (selsL E P d f (selF E P d (nextS E t)).2).1, (selsL E P d f (selF E P d (nextS E t)).2).2) := by rw [selsL, ite_tt h]
theorem selsL_no {E : Int} {P : Nat → PSt → ExprT × PSt} {d f : Nat} {t : PSt} (h : isS [44] t = false) : selsL E P d f t = ([], t) := by
  cases f with
  | zero => rfl
  | succ f => rw [selsL, ite_ff h]

set_option maxRecDepth 100000 in
set_option maxHeartbeats 4000000 in
theorem sels_any (g : Nat) (E : Int) (P : Nat → PSt → ExprT × PSt) (hL : LeP P) (N : Nat) (hP : OrC g E P N) (t : PSt) (d : Nat) (w : World) (h : RdS g E w t d) (hN : N ≤ d + 1) (hd : d ≤ 33) (hf : d = 33 → t.fe ≠ 0) :
    Calls Tryz.prog 79 #[.pointer (some ⟨g, 0, none⟩)] w (SelsP g E w (selsF E P d t) d) := by
  have hg := h.lt
  have HM := Lib.hid (must_any g E t d ⟨#[91]⟩ w h)
  have HS := Lib.hid (fun t w hr hf => sel_any g E P N hP t d w hr hN hd hf)
  have HMB := Lib.hid (mustS_le E [91] t)
  have HTB := Lib.hid h.bound
  have HF1 := Lib.hid (show d = 33 → (mustS E [91] t).fe ≠ 0 from fun e => by rw [mustS_bad (hf e)]; exact hf e)
  have HF2 := Lib.hid (show d = 33 → (selF E P d (mustS E [91] t)).2.fe ≠ 0 from fun e => by rw [selF_bad (HF1.out e)]; exact HF1.out e)
  have HLE := Lib.hid (fun t => selF_le hL d (E := E) t)
  unfold selsF
  obtain ⟨t1, ht1⟩ : ∃ t1, mustS E [91] t = t1 := ⟨_, rfl⟩
  have HM := Lib.hid (show Calls Tryz.prog 103 #[.pointer (some ⟨g, 0, none⟩), .string ⟨#[91]⟩] w fun e w' => e = .returned (.tuple #[]) ∧ RdS g E w' t1 d ∧ Ex g w w' by rw [← ht1]; exact HM.out)
  rw [ht1] at HF1 HF2 HMB ⊢
  obtain ⟨x0, t2, hx0⟩ : ∃ x0 t2, selF E P d t1 = (x0, t2) := ⟨_, _, rfl⟩
  have HX0 := Lib.hid hx0
  have HLE1 := Lib.hid (HLE.out t1)
  rw [hx0] at HF2 HLE1 ⊢
  simp only at HF2 HLE1 ⊢
  obtain ⟨i0, hi, hz0, hz1, hz2⟩ := info_parts info_sel
  clear h hf hx0 ht1 hP
  go_enter Tryz.func79, Tryz.ntmps79
  go_wp2_with (go_at_call 103; refine HM.out.mono ?_; rintro e w1 ⟨rfl, hr, hx⟩; have HS1 := Lib.hid (HS.out t1 w1 hr HF1.out); have HX1 := Lib.hid hx; clear hr hx)
  refine HS1.out.mono ?_
  rintro e w2 ⟨m, pv, rfl, hsc, hr, hx⟩
  rw [HX0.out] at hsc hr ⊢
  simp only at hsc hr ⊢
  obtain ⟨p, rfl⟩ := hsc.ptr
  have hs1 := HX1.out.size
  have hs2 := hx.size
  have HBR := Lib.hid (BRow.one RSel_ok (w0 := w) (show RSel (Fr w1) m w2 (selL x0 (.pointer p)) x0 from hsc) (fun b (hb : w1.heap.size ≤ b) _ => by omega) (by omega) 47)
  have HRD := Lib.hid (hr.alloc (.cells (selL x0 (.pointer p)).toArray 47))
  have HEX := Lib.hid ((HX1.out.trans hx).alloc (.cells (selL x0 (.pointer p)).toArray 47))
  unfold selV
  clear hsc hr hx HS1
  go_wp2
  unfold selL at HBR HRD HEX
  go_loopg [3] t2.toks.length (fun k v wr => ∃ (t' : PSt) (l : List SelT) (css : List (List Value)) (m f : Nat), k = t'.toks.length ∧ t'.toks.length ≤ f ∧ l.length + t'.toks.length ≤ 1000001 ∧ Hid (BRow 9 47 RSel m w wr v l css) ∧ Hid (RdS g E wr t' d) ∧ Hid (Ex g w wr) ∧ Hid (d = 33 → t'.fe ≠ 0) ∧ Hid (((x0 :: (selsL E P d t2.toks.length t2).1, mustS E [93] (selsL E P d t2.toks.length t2).2) : List SelT × PSt) = (l ++ (selsL E P d f t').1, mustS E [93] (selsL E P d f t').2)))
  case atStart => exact ⟨t2, [x0], [_], m, t2.toks.length, rfl, Nat.le_refl _, by have := HMB.out; have := HTB.out; have := HLE1.out; simp; omega, HBR, HRD, HEX, HF2, Lib.hid rfl⟩
  case round =>
    clear HBR HRD HEX HF2 HF1 HMB HTB HLE1 HM HX1 hs1 hs2
    obtain ⟨t', l, css, m', f, hgk, hfl, hll, HBR, HRD, HEX, HFE, HEQ⟩ := hrel
    have HGK := Lib.hid hgk; clear hgk
    cases hb : isS [44] t' with
    | true =>
      have hd32 := is_deep hb hd HFE.out
      have hlt := is_lt (E := E) hb
      obtain ⟨f', rfl⟩ : ∃ f', f = f' + 1 := ⟨f - 1, by omega⟩
      have HEQ := Lib.hid (HEQ.out.trans (by rw [selsL_yes hb]))
      have HT := Lib.hid (take_yes g E t' d ⟨#[44]⟩ wr HRD.out (Lib.hid hb))
      have HLE2 := Lib.hid (HLE.out (nextS E t'))
      obtain ⟨x, t3, hx3⟩ : ∃ x t3, selF E P d (nextS E t') = (x, t3) := ⟨_, _, rfl⟩
      have HX3 := Lib.hid hx3
      rw [hx3] at HEQ HLE2
      simp only at HEQ HLE2
      have HLT := Lib.hid hlt
      clear hb hx3 hlt HLE
      go_wp2_with (go_at_call 81; refine HT.out.mono ?_; rintro e w4 ⟨rfl, hr, hx⟩; have HS4 := Lib.hid (HS.out (nextS E t') w4 hr (fun e => absurd e (by omega))); have HX4 := Lib.hid (HEX.out.trans hx); have HB4 := Lib.hid (HBR.out.ex RSel_ok hx hg); have hz4 := hx.size; clear hr hx)
      refine HS4.out.mono ?_
      rintro e w5 ⟨mn, pv, rfl, hsc, hr, hx⟩
      rw [HX3.out] at hsc hr ⊢
      simp only at hsc hr ⊢
      obtain ⟨p5, rfl⟩ := hsc.ptr
      have hz5 := hx.size
      have HX5 := Lib.hid (HX4.out.trans hx)
      have HB5 := Lib.hid ((HB4.out.ex RSel_ok hx hg).bel RSel_ok (bel_lit (o := .cells (selL x (.pointer p5)).toArray 47)))
      have HR5 := Lib.hid (hr.alloc (.cells (selL x (.pointer p5)).toArray 47))
      have HN5 := Lib.hid (show RSel (Fr w4) mn (w5.alloc (.cells (selL x (.pointer p5)).toArray 47)) (selL x (.pointer p5)) x from RSel_ok.keep (show RSel (Fr w4) mn w5 (selL x (.pointer p5)) x from hsc) ((Kp.id_ fun b hb _ => hb).alloc _) (Nat.le_refl _))
      have HK5 := Lib.hid (show ∀ b, Fr w4 b → b < (w5.alloc (.cells (selL x (.pointer p5)).toArray 47)).heap.size → w.heap.size ≤ b ∧ u3.ownBlock ≠ some b from fun b (hb : w4.heap.size ≤ b) _ => ⟨by have := HBR.out.size; omega, fun e => by have := (HBR.out.blk e).2; omega⟩)
      have hwz := HB5.out.size
      unfold selV
      clear hsc hr hx HS4 HB4
      go_wp2_with (at_builtin; refine wpList_append_any _ rfl (.tmp 11) (.tmp 14) 42 rfl w.heap.size 47 i0 _ 9 72 Tryz.underlying42 hi hz0 hz1 hz2 rfl (by decide) u3 l.length css.flatten rfl HB5.out.own (w5.heap.size + 1) (some ⟨w5.heap.size, 0, none⟩) 1 1 (selL x (.pointer p5)) rfl (reads_new w5 47 9 1 (selL x (.pointer p5)) rfl) (RSel_one HN5.out) (by unfold maxLen; omega) (by omega) hwz ?_; intro v' w7 hown7 hg7 hat7; have HB7 := Lib.hid (HB5.out.snoc RSel_ok HN5.out HK5.out hown7 hg7 hat7); have HR7 := Lib.hid (HR5.out.grown hg7 (fun k hk => by have := (HBR.out.blk hk).1; omega)); have HX7 := Lib.hid ((HX5.out.alloc (.cells (selL x (.pointer p5)).toArray 47)).grown hg7 (fun k hk => (HBR.out.blk hk).1)); clear hown7 hg7 hat7)
      go_roundg t3.toks.length
      case measure => have := HGK.out; have := HLT.out; have := HLE2.out; simp; omega
      case rel => exact ⟨t3, l ++ [x], _, _, f', rfl, by have := HLT.out; have := HLE2.out; omega, by have := HLT.out; have := HLE2.out; simp; omega, HB7, HR7, HX7, Lib.hid (fun e => absurd e (by omega)), Lib.hid (by rw [HEQ.out, List.append_assoc]; rfl)⟩
    | false =>
      have HT := Lib.hid (take_no g E t' d ⟨#[44]⟩ wr HRD.out (Lib.hid hb))
      have HE := Lib.hid (HEQ.out.trans (by rw [selsL_no hb, List.append_nil]))
      have HM2 := Lib.hid (must_any g E t' d ⟨#[93]⟩ wr HRD.out)
      obtain ⟨A, c, hv, _⟩ := HBR.out.done RSel_ok
      subst hv
      clear hb
      go_wp2_with (first | (go_at_call 81; refine HT.out.mono ?_; rintro e w' ⟨rfl, rfl⟩) | (go_at_call 103; refine HM2.out.mono ?_; rintro e w8 ⟨rfl, hr, hx⟩; have HB8 := Lib.hid (HBR.out.ex RSel_ok hx hg); have HR8 := Lib.hid hr; have HX8 := Lib.hid (HEX.out.trans hx); clear hr hx))
      go_ret
      obtain ⟨A', c', hv, hrow⟩ := HB8.out.done RSel_ok
      cases hv
      rw [HE.out]
      exact ⟨m', A, c, rfl, hrow, HR8.out, HX8.out⟩

end
/- qtree: path (over seg's contract). -/
section
open Go.RowKit

theorem BRow.drew {α : Type} {k : Nat} {T : TypeId} {R : Rel α} {m : Nat} {w0 wr : World} {v : Value} {l : List α} {css : List (List Value)} (hR : RelOk k R) (h : BRow k T R m w0 wr v l css) : BRow k T R m w0 wr.drew v l css :=
  h.keepB hR (fun _ _ _ => rfl) (Nat.le_refl _)
theorem RdS.drew {g : Nat} {E : Int} {w : World} {t : PSt} {d : Nat} (h : RdS g E w t d) : RdS g E w.drew t d := h.bel ⟨rfl, rfl, Nat.le_refl _, fun _ _ => rfl⟩
theorem Blk.grown {w w' : World} {k : Nat} {t : TypeId} {cs : Array Value} {row : Option Nat} (h : Blk w k t cs) (hg : w.grownBy w' row) (hr : ∀ b, row = some b → b ≠ k) : Blk w' k t cs :=
  (hg.block k h.lt (fun e => hr k e.symm rfl)).trans h
theorem BRow.set_ {α : Type} {k : Nat} {T : TypeId} {R : Rel α} {m : Nat} {w0 wr : World} {v : Value} {l : List α} {css : List (List Value)} (hR : RelOk k R) (h : BRow k T R m w0 wr v l css) {p : Addr} (hp : p.block < w0.heap.size) (u : Value) : BRow k T R m w0 (wr.setCell p u) v l css :=
  h.keepB hR (fun b hb _ => Below.heap_setCell wr p u b (by omega)) (by simp)
theorem Ex.undrew {g : Nat} {w w' : World} (h : Ex g w.drew w') : Ex g w w' := ⟨h.os, h.output, h.size, h.block⟩
theorem Ex.drew {g : Nat} {a w : World} (h : Ex g a w) : Ex g a w.drew := ⟨h.os, h.output, h.size, h.block⟩
def SegP (g : Nat) (E : Int) (w : World) (r : SegT × PSt) (d : Nat) (e : Ending) (w' : World) : Prop :=
  ∃ m A c, e = .returned (.agg #[.bool r.1.deep, .slice A r.1.sels.length c]) ∧ RSeg (Fr w) m w' [.bool r.1.deep, .slice A r.1.sels.length c] r.1 ∧ RdS g E w' r.2 d ∧ Ex g w w'
def PathP (g : Nat) (E : Int) (w : World) (r : PathT × PSt) (d : Nat) (e : Ending) (w' : World) : Prop :=
  ∃ m A c, e = .returned (.agg #[.bool r.1.abs, .slice A r.1.segs.length c]) ∧ SegsG (Fr w) (ExR (Fr w) m w') w' (.slice A r.1.segs.length c) r.1.segs ∧ RdS g E w' r.2 d ∧ Ex g w w'
theorem segsL_yes {E : Int} {P : Nat → PSt → ExprT × PSt} {d f : Nat} {t : PSt} (h : isSeg t = true) : segsL E P d (f + 1) t = ((segF E P d t).1 :: (segsL E P d f (segF E P d t).2).1, (segsL E P d f (segF E P d t).2).2) := by rw [segsL, ite_tt h]
theorem segsL_no {E : Int} {P : Nat → PSt → ExprT × PSt} {d f : Nat} {t : PSt} (h : isSeg t = false) : segsL E P d f t = ([], t) := by
  cases f with
  | zero => rfl
  | succ f => rw [segsL, ite_ff h]
theorem isSeg_fe {t : PSt} (h : isSeg t = true) : t.fe = 0 ∧ t.toks ≠ [] := by
  unfold isSeg at h
  rw [Bool.or_eq_true, Bool.or_eq_true] at h
  have k : ∀ l, isS l t = true → t.fe = 0 ∧ t.toks ≠ [] := fun l hl => by
    obtain ⟨h1, x, r, h2, _⟩ := isS_ok hl
    exact ⟨h1, by rw [h2]; simp⟩
  rcases h with (h | h) | h <;> exact k _ h

set_option maxRecDepth 100000 in
set_option maxHeartbeats 4000000 in
theorem path_of (g : Nat) (E : Int) (P : Nat → PSt → ExprT × PSt) (hL : LeP P) (t : PSt) (d : Nat) (w : World) (h : RdS g E w t d) (hd : d ≤ 33) (hf : d = 33 → t.fe ≠ 0)
    (hseg : ∀ t w, RdS g E w t d → (d = 33 → t.fe ≠ 0) → isSeg t = true → Calls Tryz.prog 55 #[.pointer (some ⟨g, 0, none⟩)] w (SegP g E w (segF E P d t) d)) :
    Calls Tryz.prog 32 #[.pointer (some ⟨g, 0, none⟩)] w (PathP g E w (pathF E P d t) d) := by
  have hg := h.lt
  obtain ⟨w0, hw0⟩ : ∃ w0 : World, w0.heap.size = w.heap.size + 2 := ⟨(w.alloc (.cells #[] 0)).alloc (.cells #[] 0), by simp⟩
  have hwa : w.heap.size + 2 ≤ w0.heap.size := by omega
  have hwb : w0.heap.size ≤ w.heap.size + 2 := by omega
  have hg0 : g < w0.heap.size := by omega
  clear hw0
  have HR0 := Lib.hid (h.alloc (.cells #[.bool false, .slice none 0 0] 37))
  have HX0 := Lib.hid (show Ex g w (w.alloc (.cells #[.bool false, .slice none 0 0] 37)) from (Ex.refl g w).alloc _)
  have HB0 := Lib.hid (Blk.new w 37 #[.bool false, .slice none 0 0])
  obtain ⟨ab, hab⟩ : ∃ ab, isS [36] t = ab := ⟨_, rfl⟩
  have HI := Lib.hid (is_at ⟨#[36]⟩ ab _ HR0.out (Lib.hid hab))
  have HN := Lib.hid (next_any g E t d _ (HR0.out.alloc (.cells #[.bool ab, .slice none 0 0] 37)))
  have HF2 := Lib.hid (show d = 33 → (nextS E t).fe ≠ 0 from fun e => by rw [nextS_bad (hf e)]; exact hf e)
  have HSEG := Lib.hid hseg
  have HTB := Lib.hid h.bound
  have HNB := Lib.hid (nextS_le E t)
  have HLT := Lib.hid (fun t h => segF_lt hL d (E := E) (t := t) h)
  unfold tokA at HN
  unfold pathF
  rw [hab]
  obtain ⟨t1, ht1⟩ : ∃ t1, nextS E t = t1 := ⟨_, rfl⟩
  rw [ht1] at HN HF2 HNB ⊢
  obtain ⟨i0, hi, hz0, hz1, hz2⟩ := info_parts info_seg
  clear h hf hab ht1 hseg
  go_enter Tryz.func32, Tryz.ntmps32
  generalize hQ : bodyPost Tryz.prog Tryz.f32 (PathP g E w (⟨ab, (segsL E P d t1.toks.length t1).1⟩, (segsL E P d t1.toks.length t1).2) d) = Q
  have HQ := Lib.hid hQ; clear hQ
  let qd := bodyPost Tryz.prog Tryz.f32 (PathP g E w (⟨ab, (segsL E P d t1.toks.length t1).1⟩, (segsL E P d t1.toks.length t1).2) d)
  go_wp2_with (first
    | (go_at_call 30; refine HI.out.mono ?_; rintro e w' ⟨rfl, rfl⟩)
    | (go_at_call 54; refine HN.out.mono ?_; rintro e w2 ⟨rfl, hr, hx⟩; have HR2 := Lib.hid hr; have HX2 := Lib.hid ((HX0.out.alloc _).trans hx); have HB2 := Lib.hid ((HB0.out.alloc (.cells #[.bool ab, .slice none 0 0] 37)).ex hx (by omega)); have HP2 := Lib.hid (Blk.ex (Blk.new1 w (.cells #[.bool false, .slice none 0 0] 37) 37 #[.bool ab, .slice none 0 0]) hx (by omega)); clear hr hx))
  go_loopg [] t1.toks.length (fun k wr => ∃ (t' : PSt) (l : List SegT) (css : List (List Value)) (v : Value) (m f : Nat), k = t'.toks.length ∧ t'.toks.length ≤ f ∧ l.length + t'.toks.length ≤ 1000001 ∧ Hid (BRow 2 44 RSeg m w0 wr v l css) ∧ Hid (RdS g E wr t' d) ∧ Hid (Ex g w wr) ∧ Hid (Blk wr w.heap.size 37 #[.bool false, .slice none 0 0]) ∧ Hid (Blk wr (w.heap.size + 1) 37 #[.bool ab, v]) ∧ Hid (d = 33 → t'.fe ≠ 0) ∧ Hid (((segsL E P d t1.toks.length t1) : List SegT × PSt) = (l ++ (segsL E P d f t').1, (segsL E P d f t').2)))
  case atStart => exact ⟨t1, [], [], .slice none 0 0, 0, t1.toks.length, rfl, Nat.le_refl _, by have := HNB.out; have := HTB.out; simp; omega, Lib.hid (BRow.nil _ _ _ _ (by have := HP2.out.lt; omega)), HR2, HX2, HB2, HP2, HF2, Lib.hid (by rw [List.nil_append])⟩
  case round =>
    clear HR2 HX2 HB2 HP2 HF2 HNB HTB HN HI HR0 HX0 HB0
    obtain ⟨t', l, css, v, m, f, hgk, hfl, hll, HBR, HRD, HEX, HRS, HPB, HFE, HEQ⟩ := hrel
    have HGK := Lib.hid hgk; clear hgk
    obtain ⟨b1, hb1⟩ : ∃ b1, isS [91] t' = b1 := ⟨_, rfl⟩
    obtain ⟨b2, hb2⟩ : ∃ b2, isS [46] t' = b2 := ⟨_, rfl⟩
    obtain ⟨b3, hb3⟩ : ∃ b3, isS [46, 46] t' = b3 := ⟨_, rfl⟩
    have HI1 := Lib.hid (is_at ⟨#[91]⟩ b1 wr HRD.out (Lib.hid hb1))
    have HI2 := Lib.hid (is_at ⟨#[46]⟩ b2 wr HRD.out (Lib.hid hb2))
    have HI3 := Lib.hid (is_at ⟨#[46, 46]⟩ b3 wr HRD.out (Lib.hid hb3))
    have HSG := Lib.hid (show isSeg t' = (b1 || b2 || b3) by unfold isSeg; rw [hb1, hb2, hb3])
    clear hb1 hb2 hb3
    go_upto_region 3 with fail
    go_cut [18] (fun u wx => u = .bool (isSeg t') ∧ wr = wx)
    case first =>
      cases b1 <;> cases b2 <;> cases b3
      all_goals
        go_wp2_with (first | (go_at_call 30; (with_reducible refine HI1.out.mono ?_); rintro e w' ⟨rfl, rfl⟩) | (go_at_call 30; (with_reducible refine HI2.out.mono ?_); rintro e w' ⟨rfl, rfl⟩) | (go_at_call 30; (with_reducible refine HI3.out.mono ?_); rintro e w' ⟨rfl, rfl⟩))
        go_meet
        case rel => exact ⟨by rw [HSG.out]; rfl, rfl⟩
    case rest =>
      obtain ⟨rfl, rfl⟩ := hcut
      clear HI1 HI2 HI3 HSG
      cases hb : isSeg t' with
      | true =>
        obtain ⟨hfe0, hne⟩ := isSeg_fe hb
        have hd32 : d ≤ 32 := by
          rcases Nat.lt_or_ge d 33 with h1 | h1
          · omega
          · exact absurd hfe0 (HFE.out (by omega))
        have hlen : 0 < t'.toks.length := List.length_pos_iff.2 hne
        obtain ⟨f', rfl⟩ : ∃ f', f = f' + 1 := ⟨f - 1, by omega⟩
        have HEQ := Lib.hid (HEQ.out.trans (by rw [segsL_yes hb]))
        have hlt := HLT.out t' hb
        have hsc := fun wz (hz : RdS g E wz t' d) => HSEG.out t' wz hz HFE.out hb
        unfold SegP at hsc
        obtain ⟨x, t3, hx3⟩ : ∃ x t3, segF E P d t' = (x, t3) := ⟨_, _, rfl⟩
        rw [hx3] at HEQ hlt hsc
        simp only at HEQ hlt hsc
        have HSC := Lib.hid (hsc wr.drew HRD.out.drew)
        have HLT3 := Lib.hid hlt
        obtain ⟨zz, ⟨r0, r1⟩, y0, y1⟩ := HPB.out.c2
        obtain ⟨Av, cv, hv, _⟩ := HBR.out.done RSeg_ok
        subst hv
        have hzr := HBR.out.size
        have hrow : ∀ b, (Value.slice Av l.length cv).ownBlock = some b → w0.heap.size ≤ b ∧ b < wr.heap.size := fun b hb => HBR.out.blk hb
        have HRW := Lib.hid (fun k hk => show g < k by have := (hrow k hk).1; omega)
        have HRW2 := Lib.hid (fun k hk => show w.heap.size ≤ k by have := (hrow k hk).1; omega)
        have HRW3 := Lib.hid (fun k hk => show k ≠ w.heap.size + 1 by have := (hrow k hk).1; omega)
        have HRW4 := Lib.hid (fun k hk => show k ≠ w.heap.size by have := (hrow k hk).1; omega)
        have HKK := Lib.hid (show ∀ b, wr.heap.size ≤ b → w0.heap.size ≤ b ∧ (Value.slice Av l.length cv).ownBlock ≠ some b from fun b hb => ⟨by omega, fun e => by have := (hrow b e).2; omega⟩)
        clear hrow
        have hQ := HQ.out
        subst hQ
        clear HQ hfe0 hne hx3 hlt hsc hb HSEG
        go_upto_region 4 with fail
        go_region_law (first
          | ((rw [if_pos (by simp [Region.wanted])]; go_simp; refine HSC.out.mono ?_; rintro e w5 ⟨mn, A5, c5, rfl, hsg, hr, hx⟩; have hx5 := hx.undrew; have hz5 := hx5.size; have HB5 := Lib.hid ((HBR.out.ex RSeg_ok hx5 hg0).bel RSeg_ok (bel_lit (o := .cells #[.bool x.deep, .slice A5 x.sels.length c5] 44))); have HR5 := Lib.hid (hr.alloc (.cells #[.bool x.deep, .slice A5 x.sels.length c5] 44)); have HX5 := Lib.hid ((HEX.out.trans hx5).alloc (.cells #[.bool x.deep, .slice A5 x.sels.length c5] 44)); have HN5 := Lib.hid (show RSeg (fun b => wr.heap.size ≤ b) mn (w5.alloc (.cells #[.bool x.deep, .slice A5 x.sels.length c5] 44)) [.bool x.deep, .slice A5 x.sels.length c5] x from RSeg_ok.keep hsg ((Kp.id_ fun b hb _ => hb).alloc _) (Nat.le_refl _)); have HK5 := Lib.hid (show ∀ b, wr.heap.size ≤ b → b < (w5.alloc (.cells #[.bool x.deep, .slice A5 x.sels.length c5] 44)).heap.size → w0.heap.size ≤ b ∧ (Value.slice Av l.length cv).ownBlock ≠ some b from fun b hb _ => HKK.out b hb); have HP5 := Lib.hid ((HPB.out.ex hx5 (by omega)).alloc (.cells #[.bool x.deep, .slice A5 x.sels.length c5] 44)); have HS5 := Lib.hid ((HRS.out.ex hx5 (by omega)).alloc (.cells #[.bool x.deep, .slice A5 x.sels.length c5] 44)); have r5 : w5.cell? ⟨w.heap.size + 1, 1, none⟩ = some (.slice Av l.length cv) := (HPB.out.ex hx5 (by omega)).cell 1; have y5 : w5.frozen? ⟨w.heap.size + 1, 1, none⟩ = false := (HPB.out.ex hx5 (by omega)).frozen 1; have zz5 : w.heap.size + 1 < w5.heap.size := (HPB.out.ex hx5 (by omega)).lt; clear hsg hr hx))
          | ((refine step_append_any _ (by rfl) _ _ _ (by rfl) w0.heap.size 44 i0 _ 2 32 Tryz.underlying35 hi hz0 hz1 hz2 (by rfl) (by decide) (.slice Av l.length cv) l.length css.flatten (by rfl) (by exact HB5.out.own) (w5.heap.size + 1) (some ⟨w5.heap.size, 0, none⟩) 1 1 [.bool x.deep, .slice A5 x.sels.length c5] (by rfl) (by exact reads_new w5 44 2 1 [.bool x.deep, .slice A5 x.sels.length c5] rfl) (RSeg_one HN5.out) (by unfold maxLen; omega) (by omega) (by exact HB5.out.size) ?_; intro v' w7 hown7 hg7 hat7; have HB7 := Lib.hid (HB5.out.snoc RSeg_ok HN5.out HK5.out hown7 hg7 hat7); have HR7 := Lib.hid (HR5.out.grown hg7 HRW.out); have HX7 := Lib.hid (HX5.out.grown hg7 HRW2.out); have HP7 := Lib.hid (HP5.out.grown hg7 HRW3.out); have HS7 := Lib.hid (HS5.out.grown hg7 HRW4.out); have r7 : w7.cell? ⟨w.heap.size + 1, 1, none⟩ = some (.slice Av l.length cv) := HP7.out.cell 1; have y7 : w7.frozen? ⟨w.heap.size + 1, 1, none⟩ = false := HP7.out.frozen 1; have zz7 := HP7.out.lt; obtain ⟨A7, c7, hv7, _⟩ := HB7.out.done RSeg_ok; rw [List.length_append, List.length_singleton] at hv7; subst hv7; clear hown7 hg7 hat7)))
        all_goals
          go_wp2
          go_roundg t3.toks.length
          case measure => have := HGK.out; have := HLT3.out; simp; omega
          case rel => exact ⟨t3, l ++ [x], css ++ [[.bool x.deep, .slice A5 x.sels.length c5]], .slice A7 (l.length + 1) c7, _, f', rfl, by have := HLT3.out; omega, by have := HLT3.out; simp; omega, Lib.hid (HB7.out.set_ RSeg_ok (by show w.heap.size + 1 < w0.heap.size; omega) _), Lib.hid (HR7.out.far (by show g < w.heap.size + 1; omega) _), Lib.hid (HX7.out.set_ (.inr (by show w.heap.size ≤ w.heap.size + 1; omega)) _), Lib.hid (HS7.out.far (by show w.heap.size ≠ w.heap.size + 1; omega) _), Lib.hid (HP7.out.set_ 1 _), Lib.hid (fun e => absurd e (by omega)), Lib.hid (by rw [HEQ.out, List.append_assoc]; rfl)⟩
      | false =>
        have HE := Lib.hid (HEQ.out.trans (by rw [segsL_no hb, List.append_nil]))
        obtain ⟨A, c, hv, hrow⟩ := HBR.out.done RSeg_ok
        subst hv
        have HROW := Lib.hid hrow
        obtain ⟨zr, ⟨p0, p1⟩, f0, f1⟩ := HRS.out.c2
        obtain ⟨zz, ⟨r0, r1⟩, y0, y1⟩ := HPB.out.c2
        clear hb hrow
        go_wp2
        rw [← HQ.out]
        refine bodyPost_ret (v := .agg #[.bool ab, .slice A l.length c]) (by simp [results, Tryz.results32, go_sem, p0, p1]) rfl ?_
        rw [HE.out]
        exact ⟨m, A, c, rfl, RowG.keep HROW.out ((Kp.id_ (K' := Fr w) fun b (hb : w0.heap.size ≤ b) _ => (show w.heap.size ≤ b by omega)).far2 (fun b (hb : w0.heap.size ≤ b) _ => by omega)) (fun cs x hx => RSeg_ok.keep hx ((Kp.id_ (K' := Fr w) fun b (hb : w0.heap.size ≤ b) _ => (show w.heap.size ≤ b by omega)).far2 (fun b (hb : w0.heap.size ≤ b) _ => by omega)) (Nat.le_refl _)), HRD.out.far2 hg, HEX.out.far2 (Nat.le_refl _)⟩

end

end Go.Proofs.YtpcbcodmocmilaaGreatDoor
