/- Own blocks: the steps of a region that draws its order (no word of a dump). -/
import Derived.Deep.RegionHeld3
import Derived.Test.YtpcbcodmocmilaaOw
namespace Go.Proofs.Ytpcbcodmocmilaa
open Go.RowKit

section
variable {P : Program} {X : List Nat} {w0 w : World} {L L' : List BlkE} {rs : List RowE} {J S : World → Prop} {ops : Array Oper} {o : Oper} {a : Act} {Q : Exit → Act → World → Prop} {md : Region.Mode} {fuel i : Nat} {listed : Array Bool} {is : List Nat} {dst : Option Tmp} {tt : TypeId} {pos : String} {af : Array Edge}
theorem wp_of_call {K : Act → World → Prop} {f : FuncId} {args : Array Value} (hrun : (execOp a.eval o).run P w = .ok (.enter f args) w) (hc : Calls P f args w fun e w' => ∃ v, e = .returned v ∧ K (a.put o.dst v) w') : o.wp P a w K Q := by
  unfold Oper.wp
  rw [hrun, Oper.upon_enter]
  refine hc.mono ?_
  rintro e w' ⟨v, rfl, h⟩
  exact h
theorem rdy (ho : ops[i]? = some o) (hgd : o.guard = none) (h : ∀ K : Act → World → Prop, Shut (∀ a w, S w → (S w → wpAnyH P md ops Q S fuel (listed.setIfInBounds i true) a w) → K a w) → Oper.wp P o a w K Q) (hs : AllReadyH P md ops Q S fuel listed a w is) : AllReadyH P md ops Q S fuel listed a w (i :: is) :=
  AllReadyH.cons ho (fun K hK => by
    rw [if_pos (by simp [Region.wanted, hgd])]
    exact h K hK) hs
theorem rdy_store (ty : TypeId) (x y : Operand) (ho : ops[i]? = some ⟨dst, .store ty x y, tt, pos, af, none⟩) (g : Nat) (hx : a.eval x = .pointer (some ⟨g, 0, none⟩)) (cs : Array Value) (hy : a.eval y = .agg cs) (M : Own X w0 w L rs J) (old : Array Value) (hm : Upd g old cs L L')
    (n : Nat) (hi : (P.info? ty).map (·.size) = some n) (hn : cs.size = n) (hold : old.size = n) (h1 : allOne cs.toList = true)
    (h : ∀ w', Own X w0 w' L' rs J → S w' ∧ wpAnyH P md ops Q S fuel (listed.setIfInBounds i true) (a.put dst undef) w') (hs : AllReadyH P md ops Q S fuel listed a w is) : AllReadyH P md ops Q S fuel listed a w (i :: is) := by
  refine rdy ho rfl (fun K hK => ?_) hs
  have M' := M.setRow hm
  obtain ⟨A, T, B, rfl, rfl⟩ := hm.split
  obtain ⟨h2, h3⟩ := h _ M'
  exact wp_store_row ty x y rfl g cs hx hy T old (M.blk (g, T, old) (by simp)) (by rw [hn]; exact hi) (by rw [hn, hold]) (allOne_all h1) (hK.out _ _ h2 fun _ => h3)
theorem rdy_call {f : FuncId} {args : Array Value} {R : Ending → World → Prop} (hc : Calls P f args w R) {op : Op} (ho : ops[i]? = some ⟨dst, op, tt, pos, af, none⟩) (hrun : (execOp a.eval ⟨dst, op, tt, pos, af, none⟩).run P w = .ok (.enter f args) w)
    (h : ∀ e w', R e w' → ∃ v, e = .returned v ∧ S w' ∧ wpAnyH P md ops Q S fuel (listed.setIfInBounds i true) (a.put dst v) w') (hs : AllReadyH P md ops Q S fuel listed a w is) : AllReadyH P md ops Q S fuel listed a w (i :: is) := by
  refine rdy ho rfl (fun K hK => ?_) hs
  refine wp_of_call hrun (hc.mono fun e w' he => ?_)
  obtain ⟨v, h1, h2, h3⟩ := h e w' he
  exact ⟨v, h1, hK.out _ _ h2 fun _ => h3⟩
theorem rdy_buildSlice (t e : TypeId) (len : Nat) (parts : Array (Nat × Operand)) (ho : ops[i]? = some ⟨dst, .buildSlice t len parts, tt, pos, af, none⟩) (hu : P.underlying t = some (.slice e)) (cs : Array Value)
    (hf : P.builtSlice e len (parts.map fun (i, x) => (i, a.eval x)).toList = some cs) (M : Own X w0 w L rs J)
    (h : ∀ g w', w0.heap.size ≤ g → g = w.heap.size → Own X w0 w' ((g, e, cs) :: L) rs J → S w' ∧ wpAnyH P md ops Q S fuel (listed.setIfInBounds i true) (a.put dst (.slice (some ⟨g, 0, none⟩) len len)) w') (hs : AllReadyH P md ops Q S fuel listed a w is) : AllReadyH P md ops Q S fuel listed a w (i :: is) := by
  refine rdy ho rfl (fun K hK => ?_) hs
  obtain ⟨h2, h3⟩ := h _ _ M.size rfl (M.alloc e cs)
  have h4 := hK.out _ _ h2 fun _ => h3
  unfold Program.builtSlice at hf
  cases hie : P.info? e with
  | none => simp [hie] at hf
  | some ie =>
    simp only [hie] at hf
    cases hz : ie.zero with
    | none => simp [hz] at hf
    | some z =>
      simp only [hz] at hf
      by_cases hc : len * ie.size > 2 ^ 24 ∨ len * ie.size = 0
      · simp [hc] at hf
      · rw [if_neg hc] at hf
        exact wp_buildSlice t e len parts rfl cs ie z hu hie hz (fun h' => hc (Or.inl h')) (fun h' => hc (Or.inr h')) hf h4
theorem yields_load_row (ty : TypeId) (x : Operand) (g : Nat) (hx : a.eval x = .pointer (some ⟨g, 0, none⟩)) (T : TypeId) (cs : Array Value) (hS : ∀ w, S w → Blk w g T cs) (d : TypeDesc) (hu : P.underlying ty = some d) (hd : isRowT d = true) (n : Nat) (hi : (P.info? ty).map (·.size) = some n) (hn : cs.size = n) : YieldsIf P ops S ⟨dst, .load ty x, tt, pos, af, none⟩ (.agg cs) a :=
  .inl ⟨by simp [Region.wanted], fun w hw' => by
    unfold execOp
    simp only [hx, Instr.loadAt, Instr.sureAddr, Sem.run_bind, Sem.run_pure, Result.andThen_ok, run_loadVar_row w g T ty cs (0, 0) d (hS w hw') hu (by cases d <;> first | rfl | cases hd) (by rw [hn]; exact hi)]⟩
end

end Go.Proofs.Ytpcbcodmocmilaa
