/- RG31: Fa, Fb, Ha joined. -/
import Derived.Test.YtpcbcodmocmilaaGreatDoorRG20
import Derived.Test.YtpcbcodmocmilaaGreatDoorRZp
import Derived.Test.YtpcbcodmocmilaaGreatDoorRG23
import Derived.Test.YtpcbcodmocmilaaGreatDoorRG25
namespace Go.Proofs.YtpcbcodmocmilaaGreatDoor
open Go.RowKit
/- law18: rows whose cells are named; Parse and Show for callers; awake (printed by gen_fa.py). -/
section
open Go.RowKit

/-- A slice that reads as a list, its cells named. -/
def RowC {α : Type} (K : Nat → Prop) (k : Nat) (R : List Value → α → Prop) (w : World) (A : Option Addr) (css : List (List Value)) (l : List α) : Prop :=
  css.length = l.length ∧ (∀ cs ∈ css, cs.length = k) ∧ (l = [] ∨ ∃ b off, A = some ⟨b, off, none⟩ ∧ K b ∧ b < w.heap.size ∧ ∀ (i : Nat) (cs : List Value) (x : α), css[i]? = some cs → l[i]? = some x → (∀ (j : Nat) u, cs[j]? = some u → w.cell? ⟨b, off + i * k + j, none⟩ = some u) ∧ R cs x)
theorem RowG.named {α : Type} {K : Nat → Prop} {k : Nat} {R : List Value → α → Prop} {w : World} {A : Option Addr} {n c : Nat} {l : List α} (h : RowG K k R w (.slice A n c) l) : (l.length ≤ c ∧ c ≤ 9223372036854775807) ∧ ∃ css, RowC K k R w A css l := by
  obtain ⟨A', cap, e, hcap, h3⟩ := h
  simp only [Value.slice.injEq] at e
  obtain ⟨rfl, _, rfl⟩ := e
  refine ⟨hcap, ?_⟩
  rcases h3 with rfl | ⟨b, off, rfl, hK, hb, hc⟩
  · exact ⟨[], rfl, fun cs h => by simp at h, .inl rfl⟩
  · have key : ∀ i : Fin l.length, ∃ cs : List Value, cs.length = k ∧ (∀ (j : Nat) u, cs[j]? = some u → w.cell? ⟨b, off + i * k + j, none⟩ = some u) ∧ R cs l[i] := fun i => hc i l[i] (List.getElem?_eq_getElem i.2)
    let f : Fin l.length → List Value := fun i => Classical.choose (key i)
    have hf : ∀ i, (f i).length = k ∧ (∀ (j : Nat) u, (f i)[j]? = some u → w.cell? ⟨b, off + i * k + j, none⟩ = some u) ∧ R (f i) l[i] := fun i => Classical.choose_spec (key i)
    have hget : ∀ (i : Nat) (cs : List Value), (List.ofFn f)[i]? = some cs → ∃ hi : i < l.length, cs = f ⟨i, hi⟩ := fun i cs h => by
      rw [List.getElem?_ofFn] at h
      split at h
      · rename_i hi
        exact ⟨hi, (Option.some.inj h).symm⟩
      · cases h
    refine ⟨List.ofFn f, by simp, fun cs hm => ?_, .inr ⟨b, off, rfl, hK, hb, fun i cs x h1 h2 => ?_⟩⟩
    · obtain ⟨i, hi⟩ := List.mem_iff_getElem?.1 hm
      obtain ⟨h1, rfl⟩ := hget i cs hi
      exact (hf _).1
    · obtain ⟨hi, rfl⟩ := hget i cs h1
      have : l[i] = x := by rw [List.getElem?_eq_getElem hi] at h2; exact Option.some.inj h2
      rw [← this]
      exact (hf ⟨i, hi⟩).2
section
variable {α : Type} {K K' : Nat → Prop} {k : Nat} {R R' : List Value → α → Prop} {w w' : World} {A : Option Addr} {css : List (List Value)} {l : List α}
theorem RowC.keep (h : RowC K k R w A css l) (hk : Kp K K' w w') (hR : ∀ cs x, R cs x → R' cs x) : RowC K' k R' w' A css l := by
  obtain ⟨h1, h2, h3⟩ := h
  refine ⟨h1, h2, h3.imp id ?_⟩
  rintro ⟨b, off, e, hK, hb, hc⟩
  refine ⟨b, off, e, (hk.block b hK hb).1, Nat.lt_of_lt_of_le hb hk.size, fun i cs x e1 e2 => ?_⟩
  obtain ⟨hcs, hr⟩ := hc i cs x e1 e2
  exact ⟨fun j u hu => (hk.cell hK hb).trans (hcs j u hu), hR cs x hr⟩
theorem RowC.at_ (h : RowC K k R w A css l) {i : Nat} {x : α} (hx : l[i]? = some x) : ∃ cs, css[i]? = some cs := by
  have hi := (List.getElem?_eq_some_iff.1 hx).1
  exact ⟨_, List.getElem?_eq_getElem (by rw [h.1]; exact hi)⟩
theorem RowC.row {c : Nat} (h : RowC K k R w A css l) (hc : l.length ≤ c ∧ c ≤ 9223372036854775807) : RowG K k R w (.slice A l.length c) l := by
  refine ⟨A, c, rfl, hc, ?_⟩
  obtain ⟨h1, h2, h3⟩ := id h
  refine h3.imp id ?_
  rintro ⟨b, off, e, hK, hb, hq⟩
  refine ⟨b, off, e, hK, hb, fun i x hx => ?_⟩
  obtain ⟨cs, hcs⟩ := h.at_ hx
  obtain ⟨a1, a2⟩ := hq i cs x hcs hx
  exact ⟨cs, h2 cs (List.mem_of_getElem? hcs), a1, a2⟩
theorem flat_len2 : ∀ css : List (List Value), (∀ cs ∈ css, cs.length = k) → css.flatten.length = css.length * k
  | [], _ => by simp
  | c :: r, h => by rw [List.flatten_cons, List.length_append, flat_len2 r fun x hx => h x (by simp [hx]), h c (by simp), List.length_cons, Nat.add_mul]; omega
theorem RowC.reads (hk0 : 0 < k) (h : RowC K k R w A css l) : Reads w w.heap.size k A l.length css.flatten := by
  obtain ⟨h1, h2, h3⟩ := h
  refine ⟨by rw [flat_len2 css h2, h1], fun h0 => ?_⟩
  rcases h3 with rfl | ⟨b, off, rfl, _, hb, hc⟩
  · exact absurd h0 (by simp)
  · refine ⟨_, rfl, hb, fun j u hu => ?_⟩
    have hj : j % k < k := Nat.mod_lt _ hk0
    have hd : j / k * k + j % k = j := Nat.div_add_mod' j k
    rw [← hd, flat_at _ k h2 (j / k) (j % k) hj] at hu
    obtain ⟨cs, e1, e2⟩ := Option.bind_eq_some_iff.1 hu
    have hi : j / k < l.length := by rw [← h1]; exact (List.getElem?_eq_some_iff.1 e1).1
    rw [add_lit, ← hd, ← Nat.add_assoc]
    exact (hc _ cs _ e1 (List.getElem?_eq_getElem hi)).1 (j % k) u e2
/-- Cells that lie in a row of their own, and what they are. -/
theorem RowC.of (h1 : css.length = l.length) (h2 : ∀ cs ∈ css, cs.length = k) (hR : ∀ (i : Nat) cs x, css[i]? = some cs → l[i]? = some x → R cs x) (hr : Rdd w k A l.length css.flatten) (hs : ∀ a, A = some a → a.spot = none) : RowC (Lw w) k R w A css l := by
  refine ⟨h1, h2, ?_⟩
  by_cases h0 : 0 < l.length
  · obtain ⟨ad, e, hb, hc⟩ := hr.2 h0
    obtain ⟨b, off, sp⟩ := ad
    obtain rfl : sp = none := hs _ e
    refine .inr ⟨b, off, e, hb, hb, fun i cs x e1 e2 => ⟨fun j u hu => ?_, hR i cs x e1 e2⟩⟩
    have hj : j < k := by rw [← h2 cs (List.mem_of_getElem? e1)]; exact (List.getElem?_eq_some_iff.1 hu).1
    have := hc (i * k + j) u (by rw [flat_at _ k h2 i j hj, e1]; exact hu)
    rwa [add_lit, ← Nat.add_assoc] at this
  · exact .inl (List.eq_nil_of_length_eq_zero (by omega))
end
abbrev SegR (K : Nat → Prop) (m : Nat) (w : World) : List Value → SegT → Prop := SegC K (ExR K m w) w
abbrev SegsC (K : Nat → Prop) (m : Nat) (w : World) (A : Option Addr) (css : List (List Value)) (l : List SegT) : Prop := RowC K 2 (SegR K m w) w A css l
theorem SegR.keep {K K' : Nat → Prop} {m m' : Nat} {w w' : World} {cs : List Value} {x : SegT} (h : SegR K m w cs x) (hk : Kp K K' w w') (hm : m ≤ m') : SegR K' m' w' cs x := SegC.keep h hk fun cs x h => ExR.keep hk m m' hm cs x h
theorem SegsC.keep {K K' : Nat → Prop} {m : Nat} {w w' : World} {A : Option Addr} {css : List (List Value)} {l : List SegT} (h : SegsC K m w A css l) (hk : Kp K K' w w') : SegsC K' m w' A css l := RowC.keep h hk fun _ _ h => SegR.keep h hk (Nat.le_refl _)
theorem SegR.one {K : Nat → Prop} {m : Nat} {w : World} {cs : List Value} {x : SegT} (h : SegR K m w cs x) : ∀ u ∈ cs, u.oneCell' = true := by
  obtain ⟨sv, rfl, ⟨A, c, rfl, _⟩⟩ := h
  intro u hu
  simp only [List.mem_cons, List.not_mem_nil, or_false] at hu
  rcases hu with rfl | rfl <;> rfl
theorem SegsC.one {K : Nat → Prop} {m : Nat} {w : World} {A : Option Addr} {css : List (List Value)} {l : List SegT} (h : SegsC K m w A css l) : ∀ u ∈ css.flatten, u.oneCell' = true := by
  intro u hu
  obtain ⟨cs, hcs, hu⟩ := List.mem_flatten.1 hu
  obtain ⟨i, hi⟩ := List.mem_iff_getElem?.1 hcs
  have hlt := (List.getElem?_eq_some_iff.1 hi).1
  rcases h.2.2 with e | ⟨b, off, _, _, _, hc⟩
  · rw [h.1, e] at hlt; exact absurd hlt (by simp)
  · exact SegR.one (hc i cs _ hi (List.getElem?_eq_getElem (by rw [← h.1]; exact hlt))).2 u hu
theorem lw_fr {w y : World} : Kp (Fr w) (Lw y) y y := ⟨Nat.le_refl _, fun _ _ hb => ⟨hb, rfl⟩⟩
theorem parsec_ok {s : ByteArray} {p : PathT} (w : World) (hs : s.size ≤ 1000000) (h : parseT true s.data.toList = .ok p) :
    Calls Tryz.prog 17 #[.string s] w fun e w' => ∃ m A c css, e = .returned (.tuple #[.agg #[.bool p.abs, .slice A p.segs.length c], .agg #[.int .i64 0, .int .i64 0]]) ∧ (p.segs.length ≤ c ∧ c ≤ 9223372036854775807) ∧ SegsC (Fr w) m w' A css p.segs ∧ Bel w.heap.size w w' := by
  have := parse_any s w hs
  unfold ParseP at this
  rw [h] at this
  refine this.mono ?_
  rintro e w' ⟨⟨m, A, c, rfl, hs⟩, hb⟩
  obtain ⟨hc, css, hcs⟩ := RowG.named hs
  exact ⟨m, A, c, css, rfl, hc, hcs, hb⟩
theorem parsec_err {s : ByteArray} {x a : Int} (w : World) (hs : s.size ≤ 1000000) (h : parseT true s.data.toList = .error (x, a)) :
    Calls Tryz.prog 17 #[.string s] w fun e w' => e = .returned (.tuple #[.agg #[.bool false, .slice none 0 0], .agg #[.int .i64 x, .int .i64 a]]) ∧ Bel w.heap.size w w' := by
  have := parse_any s w hs
  unfold ParseP at this
  rw [h] at this; exact this
/-- Show, of cells that lie there. -/
theorem showc_any {N : Nat} (hN : N ≤ 3000) (p : PathT) (A : Option Addr) (c m : Nat) (css : List (List Value)) (w0 w : World) (hp : WfP (SS N) (WfN (SS N) 200) p) (hv : SegsC (Fr w0) m w A css p.segs) (hc : p.segs.length ≤ c ∧ c ≤ 9223372036854775807) (ht : Tab w) (hl : (showT p).length ≤ 900000000) : Calls Tryz.prog 18 #[.agg #[.bool p.abs, .slice A p.segs.length c]] w fun e w' => e = .returned (.string (bs (showT p))) ∧ Bel w.heap.size w w' :=
  wshow_any hN p _ m w hp ((SegsC.keep hv lw_fr).row hc) ht hl
set_option maxRecDepth 100000 in
theorem awake18 (w : World) (ht : Tab w) : Calls Tryz.prog 16 #[] w fun e w' => e = .returned (.bool true) ∧ Bel w.heap.size w w' := by
  have HS := Lib.hid (wshow_any (N := 0) (by omega) ⟨true, []⟩ (.slice none 0 0) 0 w (fun s h => by simp at h) ⟨none, 0, rfl, ⟨Nat.le_refl _, by omega⟩, .inl rfl⟩ ht (by decide))
  go_enter Tryz.func16, Tryz.ntmps16
  go_wp2_with (go_at_call 18; (refine HS.out.mono ?_); rintro e w' ⟨rfl, hb⟩; have HB := Lib.hid hb; clear hb; rw [show bs (showT ⟨true, []⟩) = ⟨#[36]⟩ from rfl])
  go_ret
  exact ⟨rfl, HB.out⟩

theorem F_Flq : TyF Tryz.prog 31 2 #[.int .i64 0, .int .i64 0] := ⟨⟨_, Tryz.underlying31, rfl⟩, by kernel_rfl, by kernel_rfl⟩
theorem O_ern : OneF Tryz.prog 29 := ⟨⟨_, Tryz.underlying29, rfl⟩, by kernel_rfl⟩
section
variable {P : Program} {S : World → Prop} {ops : Array Oper} {md : Region.Mode} {fuel i : Nat} {listed : Array Bool} {is : List Nat} {dst : Option Tmp} {tt : TypeId} {pos : String} {af : Array Edge} {a : Act} {w : World} {Q : Exit → Act → World → Prop}
theorem q_ld1g {w0 : World} {X : List Nat} {L : List BlkE} {rs : List RowE} {J : World → Prop} {rest : List Oper} {T : TypeId} (F : OneF P T) {gd : Nat × Bool} {x : Operand} {g j : Nat} {T' : TypeId} {cs : Array Value} {v : Value} (hw : Region.wanted ⟨dst, .load T x, tt, pos, af, some gd⟩ (yielded ops a.tmps) = true) (hx : a.eval x = .pointer (some ⟨g, j, none⟩)) (M : Own X w0 w L rs J) (hm : (g, T', cs) ∈ L) (hv : cs[j]? = some v)
    (h : wpList P ops Q rest (a.put dst v) w) : wpList P ops Q (⟨dst, .load T x, tt, pos, af, some gd⟩ :: rest) a w :=
  wpList_step fun _ hK => by rw [if_pos hw]; exact o_ld1 F hx (((M.blk _ hm).cell j).trans hv) (hK _ _ h)
theorem q_gl (T : TypeId) {gd : Nat × Bool} {x : Operand} {rest : List Oper} (h : wpList P ops Q (⟨dst, .load T x, tt, pos, af, some gd⟩ :: rest) a w) : wpList P ops Q (⟨dst, .load T x, tt, pos, af, some gd⟩ :: rest) a w := h
end


end
/- law18: QshowTwo (printed by gen_fb.py). -/
section
open Go.RowKit

theorem SS.mono {N M : Nat} (h : N ≤ M) {t : List UInt8} (k : SS N t) : SS M t := ⟨Nat.le_trans k.1 h, k.2⟩
theorem WfS.monoS {S S' : List UInt8 → Prop} {W W' : ExprT → Prop} (hS : ∀ t, S t → S' t) (h : ∀ e, W e → W' e) {y : SelT} (k : WfS S W y) : WfS S' W' y := by
  cases k with
  | nm s a => exact .nm s (hS s a)
  | wild => exact .wild
  | idx n a => exact .idx n a
  | slice a b c ha hb a1 a2 a3 a4 a5 => exact .slice a b c ha hb a1 a2 a3 a4 a5
  | filt e a => exact .filt e (h e a)
theorem WfP.monoS {S S' : List UInt8 → Prop} {W W' : ExprT → Prop} (hS : ∀ t, S t → S' t) (h : ∀ e, W e → W' e) {p : PathT} (k : WfP S W p) : WfP S' W' p := fun s hs => ⟨(k s hs).1, fun y hy => ((k s hs).2 y hy).monoS hS h⟩
theorem WfSide.monoS {S S' : List UInt8 → Prop} {W W' : ExprT → Prop} (hS : ∀ t, S t → S' t) (h : ∀ e, W e → W' e) {x : SideT} (k : WfSide S W x) : WfSide S' W' x := by
  cases k with
  | path p a => exact .path p (a.monoS hS h)
  | null => exact .null
  | tru => exact .tru
  | fls => exact .fls
  | num n a => exact .num n a
  | str s a => exact .str s (hS s a)
theorem WfN.monoS {S S' : List UInt8 → Prop} (hS : ∀ t, S t → S' t) : ∀ (n : Nat) (x : ExprT), WfN S n x → WfN S' n x
  | 0, _, h => h.elim
  | n + 1, x, h => by
    have h' : WfX S (WfN S n) x := h
    have ih := WfN.monoS hS n
    show WfX S' (WfN S' n) x
    cases h' with
    | or l a b => exact .or l a fun k hk => ih k (b k hk)
    | and l a b => exact .and l a fun k hk => ih k (b k hk)
    | not k a => exact .not k (ih k a)
    | test p a => exact .test p (a.monoS hS ih)
    | cmp op a b a1 a2 a3 a4 a5 a6 => exact .cmp op a b a1 a2 (a3.monoS hS ih) (a4.monoS hS ih) a5 a6
theorem parse_wf800 {m : Bool} {l : List UInt8} {p : PathT} (h : parseT m l = .ok p) (hl : l.length ≤ 400) : WfP (SS 1600) (WfN (SS 1600) 200) p ∧ wtP (wtN 200) p ≤ 1600 ∧ p.abs = true := by
  obtain ⟨h1, h2, h3⟩ := parse_wfS h
  have hS : ∀ t, SS (4 * l.length) t → SS 1600 t := fun t ht => ht.mono (by omega)
  exact ⟨h1.monoS hS (WfN.monoS hS 200), by omega, h3⟩
theorem show_le {p : PathT} (h : WfP (SS 1600) (WfN (SS 1600) 200) p) (hw : wtP (wtN 200) p ≤ 1600) : (showT p).length ≤ 40000000 := by
  have := showT_len (by omega) h
  omega
end
/- A text written in single marks is read back; plain. -/
section

theorem ofN_eq (b : UInt8) (n : Int) (h : n = (b.toNat : Int)) : UInt8.ofNat n.toNat = b := by
  subst h; simp
theorem runU_dead : ∀ r : List UInt8, runU 8 r = 8
  | [] => rfl
  | b :: r => by
    rw [runU_cons, show ustep 8 (b.toNat : Int) = 8 from by unfold ustep; simp]
    exact runU_dead r
theorem more_U {st t lo hi : Int} (hst : ∀ b : Int, ustep st b = if lo ≤ b ∧ b ≤ hi then t else 8) (h0 : st ≠ 0) {r : List UInt8} (h : runU st r = 0) : ∃ b r', r = b :: r' ∧ lo ≤ (b.toNat : Int) ∧ (b.toNat : Int) ≤ hi ∧ runU t r' = 0 := by
  cases r with
  | nil => exact absurd h h0
  | cons b r' =>
    rw [runU_cons, hst] at h
    by_cases hb : lo ≤ (b.toNat : Int) ∧ (b.toNat : Int) ≤ hi
    · rw [if_pos hb] at h; exact ⟨b, r', rfl, hb.1, hb.2, h⟩
    · rw [if_neg hb, runU_dead] at h; cases h
set_option maxRecDepth 100000 in
/-- How a right text begins. -/
theorem right_cases {s : List UInt8} (h : runU 0 s = 0) (hs : s ≠ []) : (∃ c r, s = c :: r ∧ c.toNat < 128 ∧ runU 0 r = 0) ∨
    (∃ p r x, s = p ++ r ∧ (∀ c ∈ p, 128 ≤ c.toNat) ∧ 2 ≤ p.length ∧ runU 0 r = 0 ∧ putV x = p ∧ ∀ q, scalV (p ++ q) = (x, (p.length : Int))) := by
  match s, hs with
  | b0 :: r, _ =>
    by_cases h1 : (b0.toNat : Int) < 128
    · rw [runU_cons, us0_a h1] at h
      exact .inl ⟨b0, r, rfl, by omega, h⟩
    · right
      by_cases h2 : 194 ≤ (b0.toNat : Int) ∧ (b0.toNat : Int) ≤ 223
      · rw [runU_cons, us0_b h2] at h
        obtain ⟨b1, r, rfl, e1, e2, h⟩ := more_U us1b (by omega) h
        refine ⟨[b0, b1], r, ((b0.toNat : Int) - 192) * 64 + ((b1.toNat : Int) - 128), rfl, fun c hc => ?_, by simp, h, ?_, fun q => ?_⟩
        · simp at hc; rcases hc with rfl | rfl <;> omega
        · unfold putV
          rw [if_neg (by omega), if_pos (by omega), ofN_eq b0 _ (by omega), ofN_eq b1 _ (by omega)]
        · show scalV (b0 :: b1 :: q) = _
          unfold scalV
          simp only
          rw [if_neg h1, if_pos h2, if_pos ⟨e1, e2⟩]; rfl
      · by_cases h3 : 224 ≤ (b0.toNat : Int) ∧ (b0.toNat : Int) ≤ 239
        · rw [runU_cons] at h
          have key : ∃ b1 r', r = b1 :: r' ∧ (if (b0.toNat : Int) = 224 then (160 : Int) else 128) ≤ (b1.toNat : Int) ∧ (b1.toNat : Int) ≤ (if (b0.toNat : Int) = 237 then (159 : Int) else 191) ∧ runU 1 r' = 0 := by
            rcases us0_c h3 with ⟨e1, e2⟩ | ⟨e1, e2⟩ | ⟨e1, e2, e3⟩
            · rw [e2] at h; rw [if_pos e1, if_neg (by omega)]; exact more_U us4 (by omega) h
            · rw [e2] at h; rw [if_neg (by omega), if_pos e1]; exact more_U us5 (by omega) h
            · rw [e3] at h; rw [if_neg e1, if_neg e2]; exact more_U us2 (by omega) h
          obtain ⟨b1, r, rfl, q1, q2, h⟩ := key
          obtain ⟨b2, r, rfl, q3, q4, h⟩ := more_U us1b (by omega) h
          have hlo : 128 ≤ (b1.toNat : Int) ∧ ((b0.toNat : Int) = 224 → 160 ≤ (b1.toNat : Int)) := by
            by_cases e : (b0.toNat : Int) = 224
            · rw [if_pos e] at q1; omega
            · rw [if_neg e] at q1; omega
          have hhi : (b1.toNat : Int) ≤ 191 := by
            by_cases e : (b0.toNat : Int) = 237
            · rw [if_pos e] at q2; omega
            · rw [if_neg e] at q2; omega
          refine ⟨[b0, b1, b2], r, (((b0.toNat : Int) - 224) * 64 + ((b1.toNat : Int) - 128)) * 64 + ((b2.toNat : Int) - 128), rfl, fun c hc => ?_, by simp, h, ?_, fun q => ?_⟩
          · simp at hc; rcases hc with rfl | rfl | rfl <;> omega
          · unfold putV
            rw [if_neg (by omega), if_neg (by omega), if_pos (by omega), ofN_eq b0 _ (by omega), ofN_eq b1 _ (by omega), ofN_eq b2 _ (by omega)]
          · show scalV (b0 :: b1 :: b2 :: q) = _
            unfold scalV
            simp only
            rw [if_neg h1, if_neg h2, if_pos h3, if_pos ⟨q1, q2, q3, q4⟩]; rfl
        · by_cases h4 : 240 ≤ (b0.toNat : Int) ∧ (b0.toNat : Int) ≤ 244
          · rw [runU_cons] at h
            have key : ∃ b1 r', r = b1 :: r' ∧ (if (b0.toNat : Int) = 240 then (144 : Int) else 128) ≤ (b1.toNat : Int) ∧ (b1.toNat : Int) ≤ (if (b0.toNat : Int) = 244 then (143 : Int) else 191) ∧ runU 2 r' = 0 := by
              rcases us0_d h4 with ⟨e1, e2⟩ | ⟨e1, e2⟩ | ⟨e1, e2, e3⟩
              · rw [e2] at h; rw [if_pos e1, if_neg (by omega)]; exact more_U us6 (by omega) h
              · rw [e2] at h; rw [if_neg (by omega), if_pos e1]; exact more_U us7 (by omega) h
              · rw [e3] at h; rw [if_neg (by omega), if_neg (by omega)]; exact more_U us3 (by omega) h
            obtain ⟨b1, r, rfl, q1, q2, h⟩ := key
            obtain ⟨b2, r, rfl, q3, q4, h⟩ := more_U us2 (by omega) h
            obtain ⟨b3, r, rfl, q5, q6, h⟩ := more_U us1b (by omega) h
            have hlo : 128 ≤ (b1.toNat : Int) ∧ ((b0.toNat : Int) = 240 → 144 ≤ (b1.toNat : Int)) := by
              by_cases e : (b0.toNat : Int) = 240
              · rw [if_pos e] at q1; omega
              · rw [if_neg e] at q1; omega
            have hhi : (b1.toNat : Int) ≤ 191 := by
              by_cases e : (b0.toNat : Int) = 244
              · rw [if_pos e] at q2; omega
              · rw [if_neg e] at q2; omega
            refine ⟨[b0, b1, b2, b3], r, ((((b0.toNat : Int) - 240) * 64 + ((b1.toNat : Int) - 128)) * 64 + ((b2.toNat : Int) - 128)) * 64 + ((b3.toNat : Int) - 128), rfl, fun c hc => ?_, by simp, h, ?_, fun q => ?_⟩
            · simp at hc; rcases hc with rfl | rfl | rfl | rfl <;> omega
            · unfold putV
              rw [if_neg (by omega), if_neg (by omega), if_neg (by omega), ofN_eq b0 _ (by omega), ofN_eq b1 _ (by omega), ofN_eq b2 _ (by omega), ofN_eq b3 _ (by omega)]
            · show scalV (b0 :: b1 :: b2 :: b3 :: q) = _
              unfold scalV
              simp only
              rw [if_neg h1, if_neg h2, if_neg h3, if_pos h4, if_pos ⟨q1, q2, q3, q4, q5, q6⟩]; rfl
          · exfalso
            have e8 : ustep 0 (b0.toNat : Int) = 8 := by
              have := UInt8.toNat_lt b0
              unfold ustep ufirst
              rw [if_pos rfl, if_neg h1, if_neg h2, if_neg (by omega), if_neg (by omega), if_neg (by omega), if_neg (by omega), if_neg (by omega), if_neg (by omega)]
            rw [runU_cons, e8, runU_dead] at h
            cases h
theorem esc_high {c : UInt8} (h : 128 ≤ c.toNat) : escB 39 c = [c] := by
  unfold escB
  rw [if_neg (by rintro (e | e) <;> rw [e] at h <;> revert h <;> decide), if_neg (by omega)]
theorem flat_high : ∀ p : List UInt8, (∀ c ∈ p, 128 ≤ c.toNat) → p.flatMap (escB 39) = p
  | [], _ => rfl
  | c :: r, h => by rw [List.flatMap_cons, esc_high (h c (by simp)), flat_high r fun x hx => h x (by simp [hx])]; rfl
theorem hexV_C (d : Nat) (hd : d < 16) : hexV (hexC d) = some (d : Int) :=
  (by decide : ∀ i : Fin 16, hexV (hexC i.val) = some (i.val : Int)) ⟨d, hd⟩
set_option maxRecDepth 100000 in
/-- A byte below 128, written, is read. -/
theorem char_asc (c : UInt8) (hc : c.toNat < 128) (q : List UInt8) : charT 39 (escB 39 c ++ q) = some ((c.toNat : Int), (escB 39 c).length) ∧ putV (c.toNat : Int) = [c] ∧ (escB 39 c ++ q).head? ≠ some 39 ∧ 0 < (escB 39 c).length := by
  have hp : putV (c.toNat : Int) = [c] := by unfold putV; rw [if_pos (by omega)]; simp
  refine ⟨?_, hp, ?_⟩
  · by_cases h1 : c = 39
    · subst h1; rfl
    by_cases h2 : c = 92
    · subst h2; rfl
    by_cases h3 : c.toNat < 32
    · have e : escB 39 c = signB c := by unfold escB; rw [if_neg (by simp [h1, h2]), if_pos h3]
      rw [e]
      by_cases k1 : c = 8
      · subst k1; rfl
      by_cases k2 : c = 12
      · subst k2; rfl
      by_cases k3 : c = 10
      · subst k3; rfl
      by_cases k4 : c = 13
      · subst k4; rfl
      by_cases k5 : c = 9
      · subst k5; rfl
      have e2 : signB c = [92, 117, 48, 48, hexC (c.toNat / 16), hexC (c.toNat % 16)] := by
        unfold signB; rw [if_neg k1, if_neg k2, if_neg k3, if_neg k4, if_neg k5]
      rw [e2]
      have hu : unitV (48 :: 48 :: hexC (c.toNat / 16) :: hexC (c.toNat % 16) :: q) = some (c.toNat : Int) := by
        simp only [unitV]
        rw [hexV_C _ (by omega), hexV_C _ (by omega), show hexV 48 = some 0 from rfl]
        simp only [Option.bind_some, Option.map_some]
        congr 1
        omega
      show charT 39 (92 :: 117 :: 48 :: 48 :: hexC (c.toNat / 16) :: hexC (c.toNat % 16) :: q) = _
      unfold charT
      simp only
      rw [if_neg (by decide), if_neg (by decide), if_pos trivial, hu]
      simp only
      rw [if_pos (by omega)]; rfl
    · have e : escB 39 c = [c] := by unfold escB; rw [if_neg (by simp [h1, h2]), if_neg h3]
      rw [e]
      show charT 39 (c :: q) = _
      have hs : scalV (c :: q) = ((c.toNat : Int), 1) := by unfold scalV; simp only; rw [if_pos (by omega)]
      unfold charT
      simp only
      rw [if_neg h3, if_pos h2, hs, if_neg (show ¬ ((1 : Int) = 0) by decide)]; rfl
  · by_cases h1 : c = 39
    · subst h1; exact ⟨by show some (92 : UInt8) ≠ some 39; decide, by decide⟩
    by_cases h2 : c = 92
    · subst h2; exact ⟨by show some (92 : UInt8) ≠ some 39; decide, by decide⟩
    by_cases h3 : c.toNat < 32
    · have e : escB 39 c = signB c := by unfold escB; rw [if_neg (by simp [h1, h2]), if_pos h3]
      rw [e]; unfold signB; simp
    · have e : escB 39 c = [c] := by unfold escB; rw [if_neg (by simp [h1, h2]), if_neg h3]
      rw [e]; simp [h1]
theorem txtF_step {f : Nat} {l : List UInt8} {x : Int} {n : Nat} {t : List UInt8} {k : Nat} (hh : l.head? ≠ some 39) (hl : l ≠ []) (hc : charT 39 l = some (x, n)) (ht : txtF f 39 (l.drop n) = some (t, k)) : txtF (f + 1) 39 l = some (putV x ++ t, n + k) := by
  match l, hl with
  | c :: r, _ =>
    unfold txtF
    simp only
    rw [if_neg (by intro e; rw [e] at hh; simp at hh), hc]
    simp only
    rw [ht]; rfl
set_option maxRecDepth 100000 in
theorem txt_back : ∀ (m : Nat) (s : List UInt8), s.length ≤ m → runU 0 s = 0 → ∀ (f : Nat) (q : List UInt8), s.length < f → txtF f 39 (s.flatMap (escB 39) ++ 39 :: q) = some (s, (s.flatMap (escB 39)).length + 1)
  | m, [], _, _, f, q, hf => by
    obtain ⟨f, rfl⟩ : ∃ k, f = k + 1 := ⟨f - 1, by simp at hf; omega⟩
    show txtF (f + 1) 39 (39 :: q) = _
    unfold txtF
    simp
  | 0, c :: r, hm, _, _, _, _ => absurd hm (by simp)
  | m + 1, b :: s0, hm, h, f, q, hf => by
    obtain ⟨f, rfl⟩ : ∃ k, f = k + 1 := ⟨f - 1, by omega⟩
    rcases right_cases h (by simp) with ⟨c, r, e, hc, hr⟩ | ⟨p, r, x, e, hp, hp2, hr, hx, hsc⟩
    · rw [e] at hm hf ⊢
      simp only [List.length_cons] at hm hf
      obtain ⟨k1, k2, k3, k4⟩ := char_asc c hc (r.flatMap (escB 39) ++ 39 :: q)
      rw [List.flatMap_cons, List.append_assoc]
      have ih := txt_back m r (by omega) hr f q (by omega)
      rw [txtF_step k3 (by intro e; rw [e] at k3; rw [List.append_eq_nil_iff] at e; rw [e.1] at k4; simp at k4) k1 (by rw [List.drop_left' rfl]; exact ih), k2]
      rw [List.length_append, Nat.add_assoc]; rfl
    · rw [e] at hm hf ⊢
      rw [List.length_append] at hm hf
      rw [List.flatMap_append, flat_high p hp, List.append_assoc]
      have ih := txt_back m r (by omega) hr f q (by omega)
      match p, hp2 with
      | b0 :: b1 :: p2, _ =>
        have hb0 := hp b0 (by simp)
        have hch : charT 39 ((b0 :: b1 :: p2) ++ (r.flatMap (escB 39) ++ 39 :: q)) = some (x, (b0 :: b1 :: p2).length) := by
          have hs := hsc (r.flatMap (escB 39) ++ 39 :: q)
          show charT 39 (b0 :: (b1 :: p2 ++ (r.flatMap (escB 39) ++ 39 :: q))) = _
          unfold charT
          simp only
          rw [if_neg (by omega), if_pos (by intro e; rw [e] at hb0; revert hb0; decide)]
          rw [show b0 :: (b1 :: p2 ++ (r.flatMap (escB 39) ++ 39 :: q)) = (b0 :: b1 :: p2) ++ (r.flatMap (escB 39) ++ 39 :: q) from rfl, hs]
          simp only
          rw [if_neg (by simp; omega)]
          rfl
        rw [txtF_step (by intro e; simp at e; rw [e] at hb0; revert hb0; decide) (by simp) hch (by rw [List.drop_left' rfl]; exact ih), hx]
        rw [List.length_append, Nat.add_assoc]
theorem esc_ge (s : List UInt8) : s.length ≤ (s.flatMap (escB 39)).length := by
  induction s with
  | nil => exact Nat.le_refl _
  | cons c r ih =>
    have : 1 ≤ (escB 39 c).length := by unfold escB signB; (repeat' split) <;> simp
    rw [List.flatMap_cons, List.length_append, List.length_cons]; omega
/-- A text in single marks is one token. -/
theorem tok_txt (s q : List UInt8) (h : runU 0 s = 0) : tokT (txtL 39 s ++ q) = .ok (4, s, 0, (txtL 39 s).length) := by
  have e : txtL 39 s ++ q = 39 :: (s.flatMap (escB 39) ++ 39 :: q) := by unfold txtL; simp
  have hb := txt_back s.length s (Nat.le_refl _) h ((s.flatMap (escB 39) ++ 39 :: q).length + 1) q (by have := esc_ge s; rw [List.length_append]; omega)
  rw [e]
  unfold tokT
  simp only
  rw [if_pos (by simp), hb]
  unfold txtL
  simp

end

end Go.Proofs.YtpcbcodmocmilaaGreatDoor
