/- G14: Ye, Qg0, Yk, Vp, Cf joined. -/
import Derived.Deep.RegionHeld3
import Derived.Test.YtpcbcodmocmilaaDoorG11
import Derived.Test.YtpcbcodmocmilaaDoorQf
import Derived.Test.YtpcbcodmocmilaaDoorG01
import Derived.Test.YtpcbcodmocmilaaDoorG03
import Derived.Test.YtpcbcodmocmilaaDoorOz
namespace Go.Proofs.YtpcbcodmocmilaaDoor
open Go.RowKit
/- ref17: sel, where it is no filter and no number (printed by gen_rsel.py). -/
section
open Go.RowKit

section
variable (A : Option Addr) (all : List TokD) (c k : Nat) (E : Int) (P : Nat → PSt → ExprT × PSt) (t : PSt) (d : Nat) (dp : Int) (w : World)

end

end
/- Rows that grow, of elements that lie in memory themselves. -/
section
open Go.RowKit

abbrev Rel (α : Type) := (Nat → Prop) → Nat → World → List Value → α → Prop
/-- A relation that keeps. -/
structure RelOk {α : Type} (k : Nat) (R : Rel α) : Prop where
  keep : ∀ {K K' : Nat → Prop} {m m' : Nat} {w w' : World} {cs : List Value} {x : α}, R K m w cs x → Kp K K' w w' → m ≤ m' → R K' m' w' cs x
  len : ∀ {K : Nat → Prop} {m : Nat} {w : World} {cs : List Value} {x : α}, R K m w cs x → cs.length = k
def RSel : Rel SelT := fun K m w cs x => SelC K (ExR K m w) w cs x
def RSeg : Rel SegT := fun K m w cs x => SegC K (ExR K m w) w cs x
def REx : Rel ExprT := fun K m w cs x => ExR K m w cs x
theorem RSel_ok : RelOk 9 RSel := ⟨fun h hk hm => SelC.keep h hk fun _ _ h => ExR.keep hk _ _ hm _ _ h, fun ⟨_, h, _⟩ => by rw [h]; rfl⟩
theorem RSeg_ok : RelOk 2 RSeg := ⟨fun h hk hm => SegC.keep h hk fun _ _ h => ExR.keep hk _ _ hm _ _ h, fun ⟨_, h, _⟩ => by rw [h]; rfl⟩
theorem REx_ok : RelOk 17 REx := ⟨fun h hk hm => ExR.keep hk _ _ hm _ _ h, fun {K m w cs x} h => by
  cases m with
  | zero => exact h.elim
  | succ m => obtain ⟨kv, qv, lv, rv, h, _⟩ := h; rw [h]; rfl⟩
theorem flat_at : ∀ (css : List (List Value)) (k : Nat), (∀ cs ∈ css, cs.length = k) → ∀ (i j : Nat), j < k → css.flatten[i * k + j]? = (css[i]?).bind fun cs => cs[j]?
  | [], _, _, _, _, _ => by simp
  | cs :: r, k, h, 0, j, hj => by
    rw [List.flatten_cons, List.getElem?_append_left (by rw [h cs (by simp)]; omega)]; simp
  | cs :: r, k, h, i + 1, j, hj => by
    rw [List.flatten_cons, List.getElem?_append_right (by rw [h cs (by simp), Nat.add_mul]; omega), h cs (by simp), show (i + 1) * k + j - k = i * k + j by rw [Nat.add_mul]; omega, flat_at r k (fun c hc => h c (by simp [hc])) i j hj]
    simp
/-- A row that grows, its elements in other blocks. -/
structure BRow {α : Type} (k : Nat) (T : TypeId) (R : Rel α) (m : Nat) (w0 wr : World) (v : Value) (l : List α) (css : List (List Value)) : Prop where
  len : css.length = l.length
  rel : ∀ (i : Nat) (cs : List Value) (x : α), css[i]? = some cs → l[i]? = some x → R (fun b => w0.heap.size ≤ b ∧ v.ownBlock ≠ some b) m wr cs x
  each : ∀ cs ∈ css, cs.length = k
  own : wr.ownsRow w0.heap.size T k v l.length css.flatten
  size : w0.heap.size ≤ wr.heap.size
section
variable {α : Type} {k : Nat} {T : TypeId} {R : Rel α} {m : Nat} {w0 wr w2 : World} {v : Value} {l : List α} {css : List (List Value)}
theorem BRow.nil (k : Nat) (T : TypeId) (R : Rel α) (m : Nat) (hs : w0.heap.size ≤ wr.heap.size) : BRow k T R m w0 wr (.slice none 0 0) ([] : List α) [] :=
  ⟨rfl, fun i cs x h _ => by simp at h, fun cs h => by simp at h, World.ownsRow_nil _ _ _ _, hs⟩
theorem BRow.one (hR : RelOk k R) {K : Nat → Prop} {cs : List Value} {x : α} (h : R K m w2 cs x) (hK : ∀ b, K b → b < w2.heap.size → w0.heap.size ≤ b) (hs : w0.heap.size ≤ w2.heap.size) (T : TypeId) :
    BRow k T R m w0 (w2.alloc (.cells cs.toArray T)) (.slice (some ⟨w2.heap.size, 0, none⟩) 1 1) [x] [cs] := by
  refine ⟨rfl, ?_, ?_, ?_, by simp; omega⟩
  · intro i cs' x' h1 h2
    cases i with
    | zero =>
      cases h1; cases h2
      refine hR.keep h (Kp.alloc (Kp.id_ fun b hb hl => ⟨hK b hb hl, ?_⟩) _) (Nat.le_refl _)
      simp only [Value.ownBlock, ne_eq, Option.some.injEq]; omega
    | succ i => simp at h1
  · intro c hc; simp at hc; subst hc; exact hR.len h
  · have := World.ownsRow_lit (base := w0.heap.size) (e := T) (size := k) w2 cs.toArray 1 hs (by unfold maxLen; omega) (by simp [hR.len h])
    simpa using this
theorem BRow.keepB (hR : RelOk k R) (h : BRow k T R m w0 wr v l css) (hb : ∀ b, w0.heap.size ≤ b → b < wr.heap.size → w2.heap[b]? = wr.heap[b]?) (hs : wr.heap.size ≤ w2.heap.size) : BRow k T R m w0 w2 v l css := by
  refine ⟨h.len, fun i cs x h1 h2 => hR.keep (h.rel i cs x h1 h2) ⟨hs, fun b hK hl => ⟨hK, hb b hK.1 hl⟩⟩ (Nat.le_refl _), h.each, ⟨h.own.1, ?_⟩, Nat.le_trans h.size hs⟩
  rcases h.own.2 with h' | ⟨g, cap, cur, h1, h2, h3, h4⟩
  · exact .inl h'
  · exact .inr ⟨g, cap, cur, h1, h2, (hb g h2 (Array.getElem?_eq_some_iff.1 h3).1).trans h3, h4⟩
theorem BRow.ex (hR : RelOk k R) {g : Nat} (h : BRow k T R m w0 wr v l css) (hx : Ex g wr w2) (hg : g < w0.heap.size) : BRow k T R m w0 w2 v l css :=
  h.keepB hR (fun b hb hl => hx.block b hl (by omega)) hx.size
theorem BRow.bel (hR : RelOk k R) (h : BRow k T R m w0 wr v l css) (hx : Bel wr.heap.size wr w2) : BRow k T R m w0 w2 v l css :=
  h.keepB hR (fun b _ hl => hx.block b hl) hx.size
theorem BRow.snoc (hR : RelOk k R) {w3 w4 : World} {v' : Value} {K : Nat → Prop} {mn : Nat} {cs : List Value} {x : α} (h : BRow k T R m w0 w3 v l css) (hn : R K mn w3 cs x) (hK : ∀ b, K b → b < w3.heap.size → w0.heap.size ≤ b ∧ v.ownBlock ≠ some b)
    (ho : w4.ownsRow w0.heap.size T k v' (l.length + 1) (css.flatten ++ cs)) (hg : w3.grownBy w4 v.ownBlock) (hv : v'.ownBlock = v.ownBlock ∨ v'.ownBlock = some w3.heap.size) :
    BRow k T R (max m mn) w0 w4 v' (l ++ [x]) (css ++ [cs]) := by
  have hk : ∀ {K' : Nat → Prop}, (∀ b, K' b → b < w3.heap.size → w0.heap.size ≤ b ∧ v.ownBlock ≠ some b) → Kp K' (fun b => w0.heap.size ≤ b ∧ v'.ownBlock ≠ some b) w3 w4 := fun hK' => by
    refine ⟨hg.size, fun b hb hl => ?_⟩
    obtain ⟨h1, h2⟩ := hK' b hb hl
    refine ⟨⟨h1, ?_⟩, hg.block b hl (fun e => h2 e.symm)⟩
    rcases hv with hv | hv
    · rw [hv]; exact h2
    · rw [hv]; simp only [ne_eq, Option.some.injEq]; omega
  refine ⟨by simp [h.len], ?_, ?_, ?_, Nat.le_trans h.size hg.size⟩
  · intro i cs' x' h1 h2
    rcases Nat.lt_or_ge i css.length with hi | hi
    · rw [List.getElem?_append_left hi] at h1
      rw [List.getElem?_append_left (by rw [← h.len]; exact hi)] at h2
      exact hR.keep (h.rel i cs' x' h1 h2) (hk fun b hb _ => hb) (Nat.le_max_left _ _)
    · rw [List.getElem?_append_right hi] at h1
      rw [List.getElem?_append_right (by rw [← h.len]; exact hi), ← h.len] at h2
      obtain ⟨j, hj⟩ : ∃ j, i - css.length = j := ⟨_, rfl⟩
      rw [hj] at h1 h2
      cases j with
      | zero => cases h1; cases h2; exact hR.keep hn (hk hK) (Nat.le_max_right _ _)
      | succ j => simp at h1
  · intro c hc
    rcases List.mem_append.1 hc with hc | hc
    · exact h.each c hc
    · simp at hc; subst hc; exact hR.len hn
  · rw [List.flatten_append, List.flatten_singleton, List.length_append]
    exact ho
theorem BRow.done (hR : RelOk k R) (h : BRow k T R m w0 wr v l css) : ∃ A c, v = .slice A l.length c ∧ RowG (Fr w0) k (R (Fr w0) m wr) wr (.slice A l.length c) l := by
  have hw : ∀ {cs : List Value} {x : α}, R (fun b => w0.heap.size ≤ b ∧ v.ownBlock ≠ some b) m wr cs x → R (Fr w0) m wr cs x := fun h => hR.keep h (Kp.id_ fun b hb _ => hb.1) (Nat.le_refl _)
  rcases h.own.2 with ⟨hv, h0⟩ | ⟨g, cap, cur, hv, hb, hg, hle, hmx, _⟩
  · exact ⟨none, 0, by rw [hv, h0], none, 0, rfl, ⟨by omega, by omega⟩, .inl (List.eq_nil_of_length_eq_zero h0)⟩
  · refine ⟨some ⟨g, 0, none⟩, cap, hv, some ⟨g, 0, none⟩, cap, rfl, ⟨hle, by unfold maxLen at hmx; omega⟩, .inr ⟨g, 0, rfl, hb, (Array.getElem?_eq_some_iff.1 hg).1, fun i x hx => ?_⟩⟩
    have hi : i < css.length := by rw [h.len]; exact (List.getElem?_eq_some_iff.1 hx).1
    have hcs : css[i]? = some css[i] := List.getElem?_eq_getElem hi
    have hlen := h.each css[i] (List.getElem_mem hi)
    refine ⟨css[i], hlen, fun j u hu => ?_, hw (h.rel i _ x hcs hx)⟩
    have hj : j < k := by rw [← hlen]; exact (List.getElem?_eq_some_iff.1 hu).1
    have := h.own.cells (g := g) (by rw [hv]; rfl) (i * k + j) u (by rw [flat_at css k h.each i j hj, hcs]; exact hu)
    rw [add_lit] at this
    rw [show 0 + i * k + j = 0 + (i * k + j) by omega]; exact this
theorem BRow.blk (h : BRow k T R m w0 wr v l css) {b : Nat} (hb : v.ownBlock = some b) : w0.heap.size ≤ b ∧ b < wr.heap.size := h.own.lt b hb
end
theorem RSel_one {K : Nat → Prop} {m : Nat} {w : World} {cs : List Value} {x : SelT} (h : RSel K m w cs x) : ∀ u ∈ cs, u.oneCell' = true := by
  obtain ⟨pv, rfl, hp⟩ := h
  have hpv : pv.oneCell' = true := by
    cases hf : x.f with
    | none => rw [hf] at hp; rw [show pv = .pointer none from hp]; rfl
    | some e => rw [hf] at hp; obtain ⟨b, off, cs, h1, _⟩ := hp; rw [h1]; rfl
  intro u hu
  simp only [selL, List.mem_cons, List.not_mem_nil, or_false] at hu
  rcases hu with rfl | rfl | rfl | rfl | rfl | rfl | rfl | rfl | rfl <;> first | rfl | exact hpv
theorem RSeg_one {K : Nat → Prop} {m : Nat} {w : World} {cs : List Value} {x : SegT} (h : RSeg K m w cs x) : ∀ u ∈ cs, u.oneCell' = true := by
  obtain ⟨sv, rfl, hp⟩ := h
  obtain ⟨A, c, e⟩ := hp.slice
  intro u hu
  simp only [List.mem_cons, List.not_mem_nil, or_false] at hu
  rcases hu with rfl | rfl
  · rfl
  · rw [e]; rfl
theorem REx_one {K : Nat → Prop} {m : Nat} {w : World} {cs : List Value} {x : ExprT} (h : REx K m w cs x) : ∀ u ∈ cs, u.oneCell' = true := by
  cases m with
  | zero => exact h.elim
  | succ m =>
    obtain ⟨kv, qv, lv, rv, rfl, h2, h3, h4, h5⟩ := h
    obtain ⟨A1, c1, rfl⟩ := h2.slice
    obtain ⟨A2, c2, rfl⟩ := RowG.slice h3
    obtain ⟨A3, c3, rfl⟩ := RowG.slice h4
    obtain ⟨A4, c4, rfl⟩ := RowG.slice h5
    intro u hu
    simp only [exL, List.mem_cons, List.not_mem_nil, or_false] at hu
    rcases hu with rfl | rfl | rfl | rfl | rfl | rfl | rfl | rfl | rfl | rfl | rfl | rfl | rfl | rfl | rfl | rfl | rfl <;> rfl
theorem info_sel : (Tryd.prog.info? 70).map (fun i => (i.zero, i.size, i.bytes)) = some (some (.agg #[.int .i64 0, .string ⟨#[]⟩, .int .i64 0, .int .i64 0, .int .i64 0, .int .i64 0, .bool false, .bool false, .pointer none]), 9, 72) := by kernel_rfl
theorem info_seg : (Tryd.prog.info? 66).map (fun i => (i.zero, i.size, i.bytes)) = some (some (.agg #[.bool false, .slice none 0 0]), 2, 32) := by kernel_rfl
theorem info_ex : (Tryd.prog.info? 97).map (fun i => (i.zero, i.size, i.bytes)) = some (some (.agg #[.int .i64 0, .slice none 0 0, .bool false, .slice none 0 0, .int .i64 0, .bool false, .int .i64 0, .int .i64 0, .string ⟨#[]⟩, .bool false, .slice none 0 0, .bool false, .int .i64 0, .int .i64 0, .string ⟨#[]⟩, .bool false, .slice none 0 0]), 17, 216) := by kernel_rfl

end
/- ref17 by own blocks: facts on types, the words of contracts, round (printed by gen_yk.py). -/
section
open Go.RowKit

section
variable {X : List Nat} {w0 w : World} {L L' : List BlkE} {rs : List RowE} {J S : World → Prop} {ops : Array Oper} {rest : List Oper} {o : Oper} {a : Act} {Q : Exit → Act → World → Prop} {md : Region.Mode} {fuel i : Nat} {listed : Array Bool} {is : List Nat} {dst : Option Tmp} {tt : TypeId} {pos : String} {af : Array Edge}
end

/-- What a callee has made, kept through what this call does with blocks of its own. -/
theorem Own.addK {X : List Nat} {w0 w w' : World} {L : List BlkE} {rs : List RowE} {J : World → Prop} {G : (Nat → Prop) → World → Prop} (hG : ∀ {K K' : Nat → Prop} {x y : World}, G K x → Kp K K' x y → G K' y) (M : Own X w0 w L rs J) (hb : Bel w.heap.size w w') (h : G (Fr w) w') : Own X w0 w' L rs (fun y => J y ∧ G (Fr w0) y) :=
  (M.bel hb).add fun _ hy => hG h ⟨hy.1, fun _ hK hl => ⟨Nat.le_trans M.size hK, hy.2 _ hl fun hm => absurd (M.ex_lt hm) (Nat.not_lt.2 hK)⟩⟩
theorem Own.call {P : Program} {X : List Nat} {w0 w : World} {L : List BlkE} {rs : List RowE} {J : World → Prop} {f : FuncId} {args : Array Value} {R : Ending → World → Prop} {v : Value} (M : Own X w0 w L rs J) (hc : Calls P f args w fun e w' => e = .returned v ∧ Bel w.heap.size w w') (h : ∀ w', Hid (Own X w0 w' L rs J) → R (.returned v) w') : Calls P f args w R :=
  hc.mono fun e w' ⟨h1, h2⟩ => by rw [h1]; exact h w' (Lib.hid (M.bel h2))
section
variable (A : Option Addr) (all : List TokD) (c k : Nat) (E : Int) (P : Nat → PSt → ExprT × PSt) (t : PSt) (d : Nat) (dp : Int) (w : World)
end

end
/- verify: sound code, on lists: plain (for the seat of laceworklaw20; no word of a dump in it). -/
section

structure PathD where
  abs : Bool
  fr : Int
  tt : Int
structure SegD where
  deep : Bool
  fr : Int
  tt : Int
structure SelD where
  kind : Int
  nm : ByteArray
  a : Int
  b : Int
  c : Int
  ha : Bool
  hb : Bool
  at_ : Int
structure InsD where
  op : Int
  p : Int
  sign : Int
  kind : Int
  n : Int
  s : ByteArray
  tt : Int
structure CodeD where
  ps : List PathD
  gs : List SegD
  ss : List SelD
  is : List InsD

def sub {α : Type} (l : List α) (fr tt : Int) : List α := (l.drop fr.toNat).take (tt.toNat - fr.toNat)
end
/- ref19: facts on types; put, meet (printed by gen_cf.py). -/
section
open Go.RowKit

theorem F_Ins : TyF Tryd.prog 73 7 #[.int .i64 0, .int .i64 0, .int .i64 0, .int .i64 0, .int .i64 0, .string ⟨#[]⟩, .int .i64 0] := ⟨⟨_, Tryd.underlying73, rfl⟩, by kernel_rfl, by kernel_rfl⟩
theorem F_Path : TyF Tryd.prog 25 2 #[.bool false, .slice none 0 0] := ⟨⟨_, Tryd.underlying25, rfl⟩, by kernel_rfl, by kernel_rfl⟩
theorem F_Ex : TyF Tryd.prog 97 17 #[.int .i64 0, .slice none 0 0, .bool false, .slice none 0 0, .int .i64 0, .bool false, .int .i64 0, .int .i64 0, .string ⟨#[]⟩, .bool false, .slice none 0 0, .bool false, .int .i64 0, .int .i64 0, .string ⟨#[]⟩, .bool false, .slice none 0 0] := ⟨⟨_, Tryd.underlying97, rfl⟩, by kernel_rfl, by kernel_rfl⟩
theorem F_Code : TyF Tryd.prog 38 4 #[.slice none 0 0, .slice none 0 0, .slice none 0 0, .slice none 0 0] := ⟨⟨_, Tryd.underlying38, rfl⟩, by kernel_rfl, by kernel_rfl⟩
theorem F_CPath : TyF Tryd.prog 42 3 #[.bool false, .int .i64 0, .int .i64 0] := ⟨⟨_, Tryd.underlying42, rfl⟩, by kernel_rfl, by kernel_rfl⟩
theorem F_CSeg : TyF Tryd.prog 44 3 #[.bool false, .int .i64 0, .int .i64 0] := ⟨⟨_, Tryd.underlying44, rfl⟩, by kernel_rfl, by kernel_rfl⟩
theorem F_CSel : TyF Tryd.prog 46 8 #[.int .i64 0, .string ⟨#[]⟩, .int .i64 0, .int .i64 0, .int .i64 0, .bool false, .bool false, .int .i64 0] := ⟨⟨_, Tryd.underlying46, rfl⟩, by kernel_rfl, by kernel_rfl⟩
theorem F_Seg : TyF Tryd.prog 66 2 #[.bool false, .slice none 0 0] := ⟨⟨_, Tryd.underlying66, rfl⟩, by kernel_rfl, by kernel_rfl⟩
theorem F_Sel : TyF Tryd.prog 70 9 #[.int .i64 0, .string ⟨#[]⟩, .int .i64 0, .int .i64 0, .int .i64 0, .int .i64 0, .bool false, .bool false, .pointer none] := ⟨⟨_, Tryd.underlying70, rfl⟩, by kernel_rfl, by kernel_rfl⟩
theorem O_int : OneF Tryd.prog 3 := ⟨⟨_, Tryd.underlying3, rfl⟩, by kernel_rfl⟩
theorem O_i64 : OneF Tryd.prog 2 := ⟨⟨_, Tryd.underlying2, rfl⟩, by kernel_rfl⟩
theorem O_bool : OneF Tryd.prog 4 := ⟨⟨_, Tryd.underlying4, rfl⟩, by kernel_rfl⟩
theorem O_str : OneF Tryd.prog 9 := ⟨⟨_, Tryd.underlying9, rfl⟩, by kernel_rfl⟩
theorem O_pex : OneF Tryd.prog 68 := ⟨⟨_, Tryd.underlying68, rfl⟩, by kernel_rfl⟩
theorem O_sIns : OneF Tryd.prog 36 := ⟨⟨_, Tryd.underlying36, rfl⟩, by kernel_rfl⟩
theorem SL_sIns : SlF Tryd.prog 36 73 7 64 (.agg #[.int .i64 0, .int .i64 0, .int .i64 0, .int .i64 0, .int .i64 0, .string ⟨#[]⟩, .int .i64 0]) := ⟨Tryd.underlying36, by kernel_rfl, rfl, by decide⟩
theorem O_sPath : OneF Tryd.prog 103 := ⟨⟨_, Tryd.underlying103, rfl⟩, by kernel_rfl⟩
theorem SL_sPath : SlF Tryd.prog 103 25 2 32 (.agg #[.bool false, .slice none 0 0]) := ⟨Tryd.underlying103, by kernel_rfl, rfl, by decide⟩
theorem O_sEx : OneF Tryd.prog 93 := ⟨⟨_, Tryd.underlying93, rfl⟩, by kernel_rfl⟩
theorem O_sSeg : OneF Tryd.prog 23 := ⟨⟨_, Tryd.underlying23, rfl⟩, by kernel_rfl⟩
theorem O_sSel : OneF Tryd.prog 64 := ⟨⟨_, Tryd.underlying64, rfl⟩, by kernel_rfl⟩
theorem O_sCPath : OneF Tryd.prog 33 := ⟨⟨_, Tryd.underlying33, rfl⟩, by kernel_rfl⟩
theorem SL_sCPath : SlF Tryd.prog 33 42 3 24 (.agg #[.bool false, .int .i64 0, .int .i64 0]) := ⟨Tryd.underlying33, by kernel_rfl, rfl, by decide⟩
theorem O_sCSeg : OneF Tryd.prog 34 := ⟨⟨_, Tryd.underlying34, rfl⟩, by kernel_rfl⟩
theorem SL_sCSeg : SlF Tryd.prog 34 44 3 24 (.agg #[.bool false, .int .i64 0, .int .i64 0]) := ⟨Tryd.underlying34, by kernel_rfl, rfl, by decide⟩
theorem O_sCSel : OneF Tryd.prog 35 := ⟨⟨_, Tryd.underlying35, rfl⟩, by kernel_rfl⟩
theorem SL_sCSel : SlF Tryd.prog 35 46 8 64 (.agg #[.int .i64 0, .string ⟨#[]⟩, .int .i64 0, .int .i64 0, .int .i64 0, .bool false, .bool false, .int .i64 0]) := ⟨Tryd.underlying35, by kernel_rfl, rfl, by decide⟩
theorem SL_sint : SlF Tryd.prog 167 3 1 8 (.int .i64 0) := ⟨Tryd.underlying167, by kernel_rfl, rfl, by decide⟩
/-- Cells that a slice reads as, wherever they lie. -/
def Rdd (w : World) (k : Nat) (A : Option Addr) (m : Nat) (xs : List Value) : Prop := Reads w w.heap.size k A m xs
theorem Rdd.kept {ex : List Nat} {w y : World} {k m : Nat} {A : Option Addr} {xs : List Value} (h : Rdd w k A m xs) (hy : Kept ex w y) (hx : ∀ a, A = some a → 0 < m → a.block ∉ ex) : Rdd y k A m xs :=
  ⟨h.1, fun h0 => by
    obtain ⟨ad, e, hlt, hc⟩ := h.2 h0
    refine ⟨ad, e, Nat.lt_of_lt_of_le hlt hy.1, fun j u hu => ?_⟩
    have h1 : (ad.add j).block = ad.block := by unfold Addr.add; split <;> rfl
    rw [World.cell?_of_block (w := w) (w' := y) (by rw [h1]; exact hy.2 _ hlt (hx ad e h0))]; exact hc j u hu⟩
theorem Rdd.bel {w w' : World} {k m : Nat} {A : Option Addr} {xs : List Value} (h : Rdd w k A m xs) (hb : Bel w.heap.size w w') : Rdd w' k A m xs :=
  h.kept (ex := []) ⟨hb.size, fun b hl _ => hb.block b hl⟩ fun _ _ _ => List.not_mem_nil
theorem Rdd.old {w y : World} {k m : Nat} {A : Option Addr} {xs : List Value} (h : Rdd w k A m xs) (hy : Kept [] w y) : Rdd y k A m xs := h.kept hy fun _ _ _ => List.not_mem_nil
/-- No block from before. -/
def FrA (w : World) (A : Option Addr) : Prop := ∀ a, A = some a → w.heap.size ≤ a.block ∧ a.spot = none
theorem FrA.le {w w' : World} {A : Option Addr} (h : FrA w' A) (hs : w.heap.size ≤ w'.heap.size) : FrA w A := fun a e => ⟨Nat.le_trans hs (h a e).1, (h a e).2⟩
theorem own_reads {w : World} {base k n : Nat} {e : TypeId} {v : Value} {xs : List Value} (h : w.ownsRow base e k v n xs) : ∃ A c, v = .slice A n c ∧ (n ≤ c ∧ c ≤ maxLen) ∧ (∀ a, A = some a → base ≤ a.block ∧ a.spot = none) ∧ Rdd w k A n xs := by
  rcases h.2 with ⟨rfl, h0⟩ | ⟨g, cap, cur, rfl, hb, hg, hle, hm, _⟩
  · subst h0
    exact ⟨none, 0, rfl, ⟨Nat.le_refl _, by unfold maxLen; omega⟩, fun a e => (by cases e), ⟨h.1, fun h => absurd h (by omega)⟩⟩
  · refine ⟨_, cap, rfl, ⟨hle, hm⟩, fun a e => (by cases e; exact ⟨hb, rfl⟩), h.1, fun _ => ⟨_, rfl, (Array.getElem?_eq_some_iff.1 hg).1, fun j u hu => ?_⟩⟩
    have := h.cells (g := g) rfl j u hu
    rw [add_lit]; rw [add_lit] at this; simpa using this
def insC (x : InsD) : List Value := [.int .i64 x.op, .int .i64 x.p, .int .i64 x.sign, .int .i64 x.kind, .int .i64 x.n, .string x.s, .int .i64 x.tt]
section
variable (B1 B2 B3 A4 A5 : Option Addr) (m1 d1 m2 d2 m3 d3 c4 n5 c5 : Nat) (w : World)

end

end

end Go.Proofs.YtpcbcodmocmilaaDoor
