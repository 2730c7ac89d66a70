/- law18: rows whose cells are named; Parse and Show for callers; awake (printed by gen_fa.py). -/
import Derived.Test.YtpcbcodmocmilaaGreatDoorG23
import Derived.Test.YtpcbcodmocmilaaGreatDoorZp
namespace Go.Proofs.YtpcbcodmocmilaaGreatDoor
open Go.RowKit

/-- A slice that reads as a list, its cells named. -/
def RowC {α : Type} (K : Nat → Prop) (k : Nat) (R : List Value → α → Prop) (w : World) (A : Option Addr) (css : List (List Value)) (l : List α) : Prop :=
  css.length = l.length ∧ (∀ cs ∈ css, cs.length = k) ∧ (l = [] ∨ ∃ b off, A = some ⟨b, off, none⟩ ∧ K b ∧ b < w.heap.size ∧ ∀ (i : Nat) (cs : List Value) (x : α), css[i]? = some cs → l[i]? = some x → (∀ (j : Nat) u, cs[j]? = some u → w.cell? ⟨b, off + i * k + j, none⟩ = some u) ∧ R cs x)
theorem RowG.named {α : Type} {K : Nat → Prop} {k : Nat} {R : List Value → α → Prop} {w : World} {A : Option Addr} {n c : Nat} {l : List α} (h : RowG K k R w (.slice A n c) l) : (l.length ≤ c ∧ c ≤ 9223372036854775807) ∧ ∃ css, RowC K k R w A css l := by
  obtain ⟨A', cap, e, hcap, h3⟩ := h
  simp only [Value.slice.injEq] at e
  obtain ⟨rfl, _, rfl⟩ := e
  refine ⟨hcap, ?_⟩
  rcases h3 with rfl | ⟨b, off, rfl, hK, hb, hc⟩
  · exact ⟨[], rfl, fun cs h => by simp at h, .inl rfl⟩
  · have key : ∀ i : Fin l.length, ∃ cs : List Value, cs.length = k ∧ (∀ (j : Nat) u, cs[j]? = some u → w.cell? ⟨b, off + i * k + j, none⟩ = some u) ∧ R cs l[i] := fun i => hc i l[i] (List.getElem?_eq_getElem i.2)
    let f : Fin l.length → List Value := fun i => Classical.choose (key i)
    have hf : ∀ i, (f i).length = k ∧ (∀ (j : Nat) u, (f i)[j]? = some u → w.cell? ⟨b, off + i * k + j, none⟩ = some u) ∧ R (f i) l[i] := fun i => Classical.choose_spec (key i)
    have hget : ∀ (i : Nat) (cs : List Value), (List.ofFn f)[i]? = some cs → ∃ hi : i < l.length, cs = f ⟨i, hi⟩ := fun i cs h => by
      rw [List.getElem?_ofFn] at h
      split at h
      · rename_i hi
        exact ⟨hi, (Option.some.inj h).symm⟩
      · cases h
    refine ⟨List.ofFn f, by simp, fun cs hm => ?_, .inr ⟨b, off, rfl, hK, hb, fun i cs x h1 h2 => ?_⟩⟩
    · obtain ⟨i, hi⟩ := List.mem_iff_getElem?.1 hm
      obtain ⟨h1, rfl⟩ := hget i cs hi
      exact (hf _).1
    · obtain ⟨hi, rfl⟩ := hget i cs h1
      have : l[i] = x := by rw [List.getElem?_eq_getElem hi] at h2; exact Option.some.inj h2
      rw [← this]
      exact (hf ⟨i, hi⟩).2
section
variable {α : Type} {K K' : Nat → Prop} {k : Nat} {R R' : List Value → α → Prop} {w w' : World} {A : Option Addr} {css : List (List Value)} {l : List α}
theorem RowC.keep (h : RowC K k R w A css l) (hk : Kp K K' w w') (hR : ∀ cs x, R cs x → R' cs x) : RowC K' k R' w' A css l := by
  obtain ⟨h1, h2, h3⟩ := h
  refine ⟨h1, h2, h3.imp id ?_⟩
  rintro ⟨b, off, e, hK, hb, hc⟩
  refine ⟨b, off, e, (hk.block b hK hb).1, Nat.lt_of_lt_of_le hb hk.size, fun i cs x e1 e2 => ?_⟩
  obtain ⟨hcs, hr⟩ := hc i cs x e1 e2
  exact ⟨fun j u hu => (hk.cell hK hb).trans (hcs j u hu), hR cs x hr⟩
theorem RowC.at_ (h : RowC K k R w A css l) {i : Nat} {x : α} (hx : l[i]? = some x) : ∃ cs, css[i]? = some cs := by
  have hi := (List.getElem?_eq_some_iff.1 hx).1
  exact ⟨_, List.getElem?_eq_getElem (by rw [h.1]; exact hi)⟩
theorem RowC.row {c : Nat} (h : RowC K k R w A css l) (hc : l.length ≤ c ∧ c ≤ 9223372036854775807) : RowG K k R w (.slice A l.length c) l := by
  refine ⟨A, c, rfl, hc, ?_⟩
  obtain ⟨h1, h2, h3⟩ := id h
  refine h3.imp id ?_
  rintro ⟨b, off, e, hK, hb, hq⟩
  refine ⟨b, off, e, hK, hb, fun i x hx => ?_⟩
  obtain ⟨cs, hcs⟩ := h.at_ hx
  obtain ⟨a1, a2⟩ := hq i cs x hcs hx
  exact ⟨cs, h2 cs (List.mem_of_getElem? hcs), a1, a2⟩
theorem flat_len2 : ∀ css : List (List Value), (∀ cs ∈ css, cs.length = k) → css.flatten.length = css.length * k
  | [], _ => by simp
  | c :: r, h => by rw [List.flatten_cons, List.length_append, flat_len2 r fun x hx => h x (by simp [hx]), h c (by simp), List.length_cons, Nat.add_mul]; omega
theorem RowC.reads (hk0 : 0 < k) (h : RowC K k R w A css l) : Reads w w.heap.size k A l.length css.flatten := by
  obtain ⟨h1, h2, h3⟩ := h
  refine ⟨by rw [flat_len2 css h2, h1], fun h0 => ?_⟩
  rcases h3 with rfl | ⟨b, off, rfl, _, hb, hc⟩
  · exact absurd h0 (by simp)
  · refine ⟨_, rfl, hb, fun j u hu => ?_⟩
    have hj : j % k < k := Nat.mod_lt _ hk0
    have hd : j / k * k + j % k = j := Nat.div_add_mod' j k
    rw [← hd, flat_at _ k h2 (j / k) (j % k) hj] at hu
    obtain ⟨cs, e1, e2⟩ := Option.bind_eq_some_iff.1 hu
    have hi : j / k < l.length := by rw [← h1]; exact (List.getElem?_eq_some_iff.1 e1).1
    rw [add_lit, ← hd, ← Nat.add_assoc]
    exact (hc _ cs _ e1 (List.getElem?_eq_getElem hi)).1 (j % k) u e2
/-- Cells that lie in a row of their own, and what they are. -/
theorem RowC.of (h1 : css.length = l.length) (h2 : ∀ cs ∈ css, cs.length = k) (hR : ∀ (i : Nat) cs x, css[i]? = some cs → l[i]? = some x → R cs x) (hr : Rdd w k A l.length css.flatten) (hs : ∀ a, A = some a → a.spot = none) : RowC (Lw w) k R w A css l := by
  refine ⟨h1, h2, ?_⟩
  by_cases h0 : 0 < l.length
  · obtain ⟨ad, e, hb, hc⟩ := hr.2 h0
    obtain ⟨b, off, sp⟩ := ad
    obtain rfl : sp = none := hs _ e
    refine .inr ⟨b, off, e, hb, hb, fun i cs x e1 e2 => ⟨fun j u hu => ?_, hR i cs x e1 e2⟩⟩
    have hj : j < k := by rw [← h2 cs (List.mem_of_getElem? e1)]; exact (List.getElem?_eq_some_iff.1 hu).1
    have := hc (i * k + j) u (by rw [flat_at _ k h2 i j hj, e1]; exact hu)
    rwa [add_lit, ← Nat.add_assoc] at this
  · exact .inl (List.eq_nil_of_length_eq_zero (by omega))
end
abbrev SegR (K : Nat → Prop) (m : Nat) (w : World) : List Value → SegT → Prop := SegC K (ExR K m w) w
abbrev SegsC (K : Nat → Prop) (m : Nat) (w : World) (A : Option Addr) (css : List (List Value)) (l : List SegT) : Prop := RowC K 2 (SegR K m w) w A css l
theorem SegR.keep {K K' : Nat → Prop} {m m' : Nat} {w w' : World} {cs : List Value} {x : SegT} (h : SegR K m w cs x) (hk : Kp K K' w w') (hm : m ≤ m') : SegR K' m' w' cs x := SegC.keep h hk fun cs x h => ExR.keep hk m m' hm cs x h
theorem SegsC.keep {K K' : Nat → Prop} {m : Nat} {w w' : World} {A : Option Addr} {css : List (List Value)} {l : List SegT} (h : SegsC K m w A css l) (hk : Kp K K' w w') : SegsC K' m w' A css l := RowC.keep h hk fun _ _ h => SegR.keep h hk (Nat.le_refl _)
theorem SegR.one {K : Nat → Prop} {m : Nat} {w : World} {cs : List Value} {x : SegT} (h : SegR K m w cs x) : ∀ u ∈ cs, u.oneCell' = true := by
  obtain ⟨sv, rfl, ⟨A, c, rfl, _⟩⟩ := h
  intro u hu
  simp only [List.mem_cons, List.not_mem_nil, or_false] at hu
  rcases hu with rfl | rfl <;> rfl
theorem SegsC.one {K : Nat → Prop} {m : Nat} {w : World} {A : Option Addr} {css : List (List Value)} {l : List SegT} (h : SegsC K m w A css l) : ∀ u ∈ css.flatten, u.oneCell' = true := by
  intro u hu
  obtain ⟨cs, hcs, hu⟩ := List.mem_flatten.1 hu
  obtain ⟨i, hi⟩ := List.mem_iff_getElem?.1 hcs
  have hlt := (List.getElem?_eq_some_iff.1 hi).1
  rcases h.2.2 with e | ⟨b, off, _, _, _, hc⟩
  · rw [h.1, e] at hlt; exact absurd hlt (by simp)
  · exact SegR.one (hc i cs _ hi (List.getElem?_eq_getElem (by rw [← h.1]; exact hlt))).2 u hu
theorem lw_fr {w y : World} : Kp (Fr w) (Lw y) y y := ⟨Nat.le_refl _, fun _ _ hb => ⟨hb, rfl⟩⟩
theorem parsec_ok {s : ByteArray} {p : PathT} (w : World) (hs : s.size ≤ 1000000) (h : parseT true s.data.toList = .ok p) :
    Calls Tryz.prog 17 #[.string s] w fun e w' => ∃ m A c css, e = .returned (.tuple #[.agg #[.bool p.abs, .slice A p.segs.length c], .agg #[.int .i64 0, .int .i64 0]]) ∧ (p.segs.length ≤ c ∧ c ≤ 9223372036854775807) ∧ SegsC (Fr w) m w' A css p.segs ∧ Bel w.heap.size w w' := by
  have := parse_any s w hs
  unfold ParseP at this
  rw [h] at this
  refine this.mono ?_
  rintro e w' ⟨⟨m, A, c, rfl, hs⟩, hb⟩
  obtain ⟨hc, css, hcs⟩ := RowG.named hs
  exact ⟨m, A, c, css, rfl, hc, hcs, hb⟩
theorem parsec_err {s : ByteArray} {x a : Int} (w : World) (hs : s.size ≤ 1000000) (h : parseT true s.data.toList = .error (x, a)) :
    Calls Tryz.prog 17 #[.string s] w fun e w' => e = .returned (.tuple #[.agg #[.bool false, .slice none 0 0], .agg #[.int .i64 x, .int .i64 a]]) ∧ Bel w.heap.size w w' := by
  have := parse_any s w hs
  unfold ParseP at this
  rw [h] at this; exact this
/-- Show, of cells that lie there. -/
theorem showc_any {N : Nat} (hN : N ≤ 3000) (p : PathT) (A : Option Addr) (c m : Nat) (css : List (List Value)) (w0 w : World) (hp : WfP (SS N) (WfN (SS N) 200) p) (hv : SegsC (Fr w0) m w A css p.segs) (hc : p.segs.length ≤ c ∧ c ≤ 9223372036854775807) (ht : Tab w) (hl : (showT p).length ≤ 900000000) : Calls Tryz.prog 18 #[.agg #[.bool p.abs, .slice A p.segs.length c]] w fun e w' => e = .returned (.string (bs (showT p))) ∧ Bel w.heap.size w w' :=
  wshow_any hN p _ m w hp ((SegsC.keep hv lw_fr).row hc) ht hl
set_option maxRecDepth 100000 in
theorem awake18 (w : World) (ht : Tab w) : Calls Tryz.prog 16 #[] w fun e w' => e = .returned (.bool true) ∧ Bel w.heap.size w w' := by
  have HS := Lib.hid (wshow_any (N := 0) (by omega) ⟨true, []⟩ (.slice none 0 0) 0 w (fun s h => by simp at h) ⟨none, 0, rfl, ⟨Nat.le_refl _, by omega⟩, .inl rfl⟩ ht (by decide))
  go_enter Tryz.func16, Tryz.ntmps16
  go_wp2_with (go_at_call 18; (refine HS.out.mono ?_); rintro e w' ⟨rfl, hb⟩; have HB := Lib.hid hb; clear hb; rw [show bs (showT ⟨true, []⟩) = ⟨#[36]⟩ from rfl])
  go_ret
  exact ⟨rfl, HB.out⟩

theorem F_Flq : TyF Tryz.prog 31 2 #[.int .i64 0, .int .i64 0] := ⟨⟨_, Tryz.underlying31, rfl⟩, by kernel_rfl, by kernel_rfl⟩
theorem O_ern : OneF Tryz.prog 29 := ⟨⟨_, Tryz.underlying29, rfl⟩, by kernel_rfl⟩
theorem SL_sGg : SlF Tryz.prog 35 44 2 32 (.agg #[.bool false, .slice none 0 0]) := ⟨Tryz.underlying35, by kernel_rfl, rfl, by decide⟩
section
variable {P : Program} {S : World → Prop} {ops : Array Oper} {md : Region.Mode} {fuel i : Nat} {listed : Array Bool} {is : List Nat} {dst : Option Tmp} {tt : TypeId} {pos : String} {af : Array Edge} {a : Act} {w : World} {Q : Exit → Act → World → Prop}
theorem q_ldG {T : TypeId} {n : Nat} {z : Array Value} (F : TyF P T n z) {gd : Nat × Bool} (x : Operand) (g : Nat) (hx : a.eval x = .pointer (some ⟨g, 0, none⟩)) (T' : TypeId) (cs : Array Value) (hS : ∀ w, S w → Blk w g T' cs) (hn : cs.size = n) (hw : Region.wanted ⟨dst, .load T x, tt, pos, af, some gd⟩ (yielded ops a.tmps) = true := by rfl) : YieldsIf P ops S ⟨dst, .load T x, tt, pos, af, some gd⟩ (.agg cs) a := by
  obtain ⟨d, hu, hd⟩ := F.u
  refine .inl ⟨hw, fun w hw' => ?_⟩
  unfold execOp
  simp only [hx, Instr.loadAt, Instr.sureAddr, Sem.run_bind, Sem.run_pure, Result.andThen_ok, run_loadVar_row w g T' T cs (0, 0) d (hS w hw') hu (by cases d <;> first | rfl | cases hd) (by rw [hn]; exact F.s)]
theorem q_ld1g {w0 : World} {X : List Nat} {L : List BlkE} {rs : List RowE} {J : World → Prop} {rest : List Oper} {T : TypeId} (F : OneF P T) {gd : Nat × Bool} {x : Operand} {g j : Nat} {T' : TypeId} {cs : Array Value} {v : Value} (hw : Region.wanted ⟨dst, .load T x, tt, pos, af, some gd⟩ (yielded ops a.tmps) = true) (hx : a.eval x = .pointer (some ⟨g, j, none⟩)) (M : Own X w0 w L rs J) (hm : (g, T', cs) ∈ L) (hv : cs[j]? = some v)
    (h : wpList P ops Q rest (a.put dst v) w) : wpList P ops Q (⟨dst, .load T x, tt, pos, af, some gd⟩ :: rest) a w :=
  wpList_step fun _ hK => by rw [if_pos hw]; exact o_ld1 F hx (((M.blk _ hm).cell j).trans hv) (hK _ _ h)
theorem q_gl (T : TypeId) {gd : Nat × Bool} {x : Operand} {rest : List Oper} (h : wpList P ops Q (⟨dst, .load T x, tt, pos, af, some gd⟩ :: rest) a w) : wpList P ops Q (⟨dst, .load T x, tt, pos, af, some gd⟩ :: rest) a w := h
theorem q_apR {w0 : World} {X : List Nat} {L : List BlkE} {rs : List RowE} {J : World → Prop} {rest : List Oper} {t e : TypeId} {k b : Nat} {zv : Value} (F : SlF P t e k b zv) {d : Tmp} {s x : Operand} {v : Value} {n : Nat} {xs : List Value} {A : Option Addr} {m c B : Nat} {news : List Value} (hs : a.eval s = v) (hx : a.eval x = .slice A m c) (M : Own X w0 w L rs J) (hrow : (v, e, k, n, xs) ∈ rs) (hr : Reads w B k A m news) (h1 : ∀ u ∈ news, u.oneCell' = true) (h63 : n + m ≤ maxLen) (hb : (n + m) * b ≤ 140737488355328)
    (h : ∀ v' w', (∀ rs', UpdR (v, e, k, n, xs) (v', e, k, n + m, xs ++ news) rs rs' → Own X w0 w' L rs' J) → wpList P ops Q rest (a.put (some d) v') w') : wpList P ops Q (⟨some d, .call { callee := .builtin .append, args := #[s, x], argTypes := #[t, t] }, tt, pos, af, none⟩ :: rest) a w := by
  obtain ⟨i, hi, hz, hsz, hby⟩ := info_parts F.i
  exact wpList_plain rfl fun K hK => wp_append_any w s x t rfl w0.heap.size e i _ k b F.u hi hz hsz hby F.z F.k v n xs hs (M.row _ hrow) B A m c news hx hr h1 h63 hb M.size fun v' w' hown hg hv => hK _ _ (h v' w' fun rs' hu => M.grow hu hown hg hv)
theorem q_callg {gd : Nat × Bool} {f : FuncId} {args : Array Value} {R : Ending → World → Prop} (hc : Calls P f args w R) {op : Op} (ho : ops[i]? = some ⟨dst, op, tt, pos, af, some gd⟩) (hw : Region.wanted ⟨dst, op, tt, pos, af, some gd⟩ (yielded ops a.tmps) = true) (hrun : (execOp a.eval ⟨dst, op, tt, pos, af, some gd⟩).run P w = .ok (.enter f args) w)
    (h : ∀ e w', R e w' → ∃ v, e = .returned v ∧ S w' ∧ wpAnyH P md ops Q S fuel (listed.setIfInBounds i true) (a.put dst v) w') (hs : AllReadyH P md ops Q S fuel listed a w is) : AllReadyH P md ops Q S fuel listed a w (i :: is) := by
  refine AllReadyH.cons ho (fun K hK => ?_) hs
  rw [if_pos hw]
  refine wp_of_call hrun (hc.mono fun e w' he => ?_)
  obtain ⟨v, h1, h2, h3⟩ := h e w' he
  exact ⟨v, h1, hK.out _ _ h2 fun _ => h3⟩
end


end Go.Proofs.YtpcbcodmocmilaaGreatDoor
