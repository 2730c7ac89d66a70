/- How long is what is written of a query (plain; no word of a dump). -/
import Derived.Lib.ItoaLen
import Derived.Test.YtpcbcodmocmilaaDoorG35
import Derived.Test.YtpcbcodmocmilaaDoorG37
namespace Go.Proofs.YtpcbcodmocmilaaDoor

theorem escB_len (m c : UInt8) : (escB m c).length ≤ 6 := by
  unfold escB signB
  (repeat' split) <;> simp
theorem escs_len (m : UInt8) : ∀ t : List UInt8, (t.flatMap (escB m)).length ≤ 6 * t.length
  | [] => by simp
  | c :: r => by
    have h1 := escB_len m c
    have h2 := escs_len m r
    rw [List.flatMap_cons, List.length_append, List.length_cons]; omega
theorem txtL_len (m : UInt8) (t : List UInt8) : (txtL m t).length ≤ 2 + 6 * t.length := by
  have := escs_len m t
  unfold txtL
  rw [List.length_cons, List.length_append, List.length_singleton]; omega
theorem intL_len {n : Int} (h : okN n) : (intL n).length ≤ 21 := by
  unfold okN at h
  exact Lib.itoa_length_le n (by omega) (by omega)
theorem sliceW_len {x : SelT} (h1 : okN x.fr) (h2 : okN x.tt) (h3 : okN x.step) : (sliceW x).length ≤ 70 := by
  have := intL_len h1
  have := intL_len h2
  have := intL_len h3
  unfold sliceW
  rw [List.length_append, List.length_cons, List.length_append]
  (repeat' split) <;> simp only [List.length_cons, List.length_nil] <;> omega
theorem joinW_len {α : Type} (sep : List UInt8) (f : α → List UInt8) : ∀ l : List α, (joinW sep f l).length ≤ (l.map fun x => (f x).length + sep.length).sum
  | [] => by simp [joinW]
  | [x] => by simp [joinW]
  | x :: y :: r => by
    have := joinW_len sep f (y :: r)
    rw [joinW, List.length_append, List.length_append, List.map_cons, List.sum_cons]; omega
theorem sum_le_mul {α : Type} (K : Nat) (f w : α → Nat) : ∀ l : List α, (∀ x ∈ l, f x ≤ K * w x) → (l.map f).sum ≤ K * (l.map w).sum
  | [], _ => by simp
  | x :: r, h => by
    have h1 := h x (by simp)
    have h2 := sum_le_mul K f w r fun y hy => h y (by simp [hy])
    rw [List.map_cons, List.map_cons, List.sum_cons, List.sum_cons, Nat.mul_add]; omega
section
variable {N : Nat} {W : ExprT → Prop} {E : ExprT → List UInt8} {w : ExprT → Nat}
theorem selW_len (hN : N ≤ 3000) (hE : ∀ e, W e → (E e).length + 10 ≤ 20000 * w e) {y : SelT} (h : WfS (SS N) W y) : (selW E y).length + 10 ≤ 20000 * wtS w y := by
  have h0 : okN 0 := by unfold okN; omega
  cases h with
  | nm s a =>
    have := txtL_len 39 s
    have := a.1
    have e : selW E ⟨0, s, 0, 0, 0, 0, false, false, none⟩ = txtL 39 s := by unfold selW; simp
    rw [e]; unfold wtS; simp only; omega
  | wild => unfold selW wtS; simp
  | idx n a =>
    have := intL_len a
    have e : selW E ⟨2, [], n, 0, 0, 0, false, false, none⟩ = intL n := by unfold selW; simp
    rw [e]; unfold wtS; simp only; omega
  | slice a b c ha hb a1 a2 a3 a4 a5 =>
    have := sliceW_len (x := ⟨3, [], 0, a, b, c, ha, hb, none⟩) a1 a2 a3
    have e : selW E ⟨3, [], 0, a, b, c, ha, hb, none⟩ = sliceW ⟨3, [], 0, a, b, c, ha, hb, none⟩ := by unfold selW; simp
    rw [e]; unfold wtS; simp only; omega
  | filt e a =>
    have := hE e a
    have e : selW E ⟨4, [], 0, 0, 0, 0, false, false, some e⟩ = 63 :: E e := by unfold selW; simp
    rw [e]; unfold wtS; simp only [List.length_cons]; omega
theorem segW_len (hN : N ≤ 3000) (hE : ∀ e, W e → (E e).length + 10 ≤ 20000 * w e) {s : SegT} (h : ∀ y ∈ s.sels, WfS (SS N) W y) : (segW E s).length + 10 ≤ 20000 * wtG w s := by
  have h1 := joinW_len [44, 32] (selW E) s.sels
  have h2 := sum_le_mul 20000 (fun x => (selW E x).length + ([44, 32] : List UInt8).length) (wtS w) s.sels fun x hx => by
    have := selW_len hN hE (h x hx)
    simp only [List.length_cons, List.length_nil]; omega
  unfold segW wtG
  rw [List.length_append, List.length_cons, List.length_append]
  have h3 : (if s.deep = true then ([46, 46] : List UInt8) else []).length ≤ 2 := by split <;> simp
  simp only [List.length_cons, List.length_nil]
  omega
theorem pathW_len (hN : N ≤ 3000) (hE : ∀ e, W e → (E e).length + 10 ≤ 20000 * w e) {p : PathT} (h : WfP (SS N) W p) : (pathW E p).length + 10 ≤ 20000 * wtP w p := by
  have h2 := sum_le_mul 20000 (fun s => (segW E s).length) (wtG w) p.segs fun s hs => by
    have := segW_len hN hE (h s hs).2
    omega
  unfold pathW wtP
  rw [List.length_cons, List.length_flatMap]
  omega
theorem sideW_len (hN : N ≤ 3000) (hE : ∀ e, W e → (E e).length + 10 ≤ 20000 * w e) {x : SideT} (h : WfSide (SS N) W x) : (sideW E x).length + 10 ≤ 20000 * wtP w x.p := by
  have hp : 1 ≤ wtP w path0 := by unfold wtP; omega
  cases h with
  | path p a => exact pathW_len hN hE a
  | null => unfold sideW; simp; omega
  | tru => unfold sideW; simp; omega
  | fls => unfold sideW; simp; omega
  | num n a =>
    have := intL_len a
    have e : sideW E ⟨true, 2, n, [], path0⟩ = intL n := by unfold sideW; simp
    rw [e]; simp only; omega
  | str s a =>
    have := txtL_len 39 s
    have := a.1
    have e : sideW E ⟨true, 3, 0, s, path0⟩ = txtL 39 s := by unfold sideW; simp
    rw [e]; simp only; omega
end
theorem roundW_len (E : ExprT → List UInt8) (b : Bool) (x : ExprT) : (roundW E b x).length ≤ (E x).length + 2 := by
  unfold roundW; split <;> simp
theorem opB_len (op : Int) : (opB op).length ≤ 2 := by
  unfold opB; (repeat' split) <;> simp
theorem exprW_len {N : Nat} (hN : N ≤ 3000) : ∀ (n : Nat) (x : ExprT), WfN (SS N) n x → (exprW n x).length + 10 ≤ 20000 * wtN n x
  | 0, _, h => h.elim
  | n + 1, x, h => by
    have h' : WfX (SS N) (WfN (SS N) n) x := h
    have ih := exprW_len hN n
    have hk : ∀ (b : ExprT → Bool) (sep : List UInt8) (l : List ExprT), sep.length = 4 → (∀ k ∈ l, WfN (SS N) n k) → (joinW sep (fun k => roundW (exprW n) (b k) k) l).length ≤ 20000 * (l.map (wtN n)).sum := fun b sep l hs hl => by
      refine Nat.le_trans (joinW_len _ _ l) (sum_le_mul 20000 _ (wtN n) l fun k hk => ?_)
      have h1 := ih k (hl k hk)
      have h2 := roundW_len (exprW n) (b k) k
      omega
    have hp0 : ∀ p : PathT, 1 ≤ wtP (wtN n) p := fun p => by unfold wtP; omega
    rw [exprW, wtN]
    cases h' with
    | or l a b =>
      have := hk (fun k => k.kind == 0) [32, 124, 124, 32] l rfl b
      have := hp0 path0
      rw [if_pos (show (mkE 0 l).kind = 0 from rfl)]; simp only [mkE, side0]; omega
    | and l a b =>
      have := hk (fun k => k.kind == 0 || k.kind == 1) [32, 38, 38, 32] l rfl b
      have := hp0 path0
      rw [if_neg (by simp [mkE]), if_pos (show (mkE 1 l).kind = 1 from rfl)]; simp only [mkE, side0]; omega
    | not k a =>
      have h1 := ih k a
      have h2 := roundW_len (exprW n) (k.kind != 3) k
      have := hp0 path0
      rw [if_neg (by simp [mkE]), if_neg (by simp [mkE]), if_pos (show (mkE 2 [k]).kind = 2 from rfl)]; simp only [mkE, side0, List.length_cons, List.map_cons, List.map_nil, List.sum_cons, List.sum_nil]; omega
    | test p a =>
      have := pathW_len hN ih a
      have := hp0 path0
      rw [if_neg (by simp [tstE]), if_neg (by simp [tstE]), if_neg (by simp [tstE]), if_pos (show (tstE p).kind = 3 from rfl)]; simp only [tstE, side0]; omega
    | cmp op a b a1 a2 a3 a4 a5 a6 =>
      have := sideW_len hN ih a3
      have := sideW_len hN ih a4
      have := opB_len op
      have := hp0 path0
      rw [if_neg (by simp), if_neg (by simp), if_neg (by simp), if_neg (by simp)]; simp only [List.length_append, List.length_cons]; omega
theorem showT_len {N : Nat} (hN : N ≤ 3000) {p : PathT} (h : WfP (SS N) (WfN (SS N) 200) p) : (showT p).length + 10 ≤ 20000 * wtP (wtN 200) p := pathW_len hN (exprW_len hN 200) h

end Go.Proofs.YtpcbcodmocmilaaDoor
