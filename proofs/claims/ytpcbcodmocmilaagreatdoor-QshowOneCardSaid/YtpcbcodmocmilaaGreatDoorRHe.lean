/- What is written is read back: the tokens of a tree give the tree; plain. -/
import Derived.Test.YtpcbcodmocmilaaGreatDoorRG34
namespace Go.Proofs.YtpcbcodmocmilaaGreatDoor

/-- What stands behind: nothing, or one of these signs. -/
def Stop (L : List (List UInt8)) (r : List TokD) : Prop := r = [] ∨ ∃ x r', r = x :: r' ∧ x.kind = 1 ∧ x.s ∈ L
def LS : List (List UInt8) := [[44], [93], [41]]
def LA : List (List UInt8) := [[44], [93], [41], [124, 124]]
def L1 : List (List UInt8) := [[44], [93], [41], [124, 124], [38, 38]]
def LC : List (List UInt8) := [[44], [93], [41], [124, 124], [38, 38], [61, 61], [33, 61], [60], [60, 61], [62], [62, 61]]
theorem Stop.mono {L M : List (List UInt8)} {r : List TokD} (h : Stop L r) (hl : ∀ x ∈ L, x ∈ M) : Stop M r := by
  rcases h with h | ⟨x, r', e, hk, hs⟩
  · exact .inl h
  · exact .inr ⟨x, r', e, hk, hl _ hs⟩
theorem Stop.sg {L : List (List UInt8)} (l : List UInt8) (g : Bool) (r : List TokD) (h : l ∈ L) : Stop L (sgT l g :: r) := .inr ⟨_, _, rfl, rfl, h⟩
section
variable {L : List (List UInt8)} {r : List TokD} {fa : Int}
theorem Stop.is (h : Stop L r) {l : List UInt8} (hl : l ∉ L) : isS l ⟨r, 0, fa⟩ = false := by
  rcases h with rfl | ⟨x, r', rfl, hk, hs⟩
  · rfl
  · have : (x.s == l) = false := by rw [beq_eq_false_iff_ne]; rintro rfl; exact hl hs
    unfold isS hdT kindS hdT
    simp [this]
theorem Stop.kind (h : Stop L r) : kindS ⟨r, 0, fa⟩ = 1 ∨ kindS ⟨r, 0, fa⟩ = 0 := by
  rcases h with rfl | ⟨x, r', rfl, hk, hs⟩
  · exact .inr rfl
  · exact .inl hk
theorem Stop.seg (h : Stop LC r) : isSeg ⟨r, 0, fa⟩ = false := by
  unfold isSeg; rw [h.is (by decide), h.is (by decide), h.is (by decide)]; rfl
theorem Stop.opn (h : Stop L1 r) : opS ⟨r, 0, fa⟩ < 0 := by
  rcases h with rfl | ⟨x, r', rfl, hk, hs⟩
  · show (-1 : Int) < 0; decide
  · unfold opS
    rw [if_pos (show kindS ⟨x :: r', 0, fa⟩ = 1 from hk)]
    have e : (hdT ⟨x :: r', 0, fa⟩).s = x.s := rfl
    rw [e]
    simp only [L1, List.mem_cons, List.not_mem_nil, or_false] at hs
    rcases hs with h | h | h | h | h <;> rw [h] <;> decide
theorem is_sg (l : List UInt8) (g : Bool) : isS l ⟨sgT l g :: r, 0, fa⟩ = true := by unfold isS hdT kindS hdT sgT; simp
theorem is_ng {l m : List UInt8} (h : l ≠ m) (g : Bool) : isS m ⟨sgT l g :: r, 0, fa⟩ = false := by unfold isS hdT kindS hdT sgT; simp [h]
theorem is_k {x : TokD} (h : x.kind ≠ 1) (l : List UInt8) : isS l ⟨x :: r, 0, fa⟩ = false := by unfold isS hdT kindS hdT; simp [h]
theorem nx (E : Int) (x : TokD) : nextS E ⟨x :: r, 0, fa⟩ = ⟨r, 0, fa⟩ := rfl
theorem opx (E : Int) {d : Nat} (h : d + 1 ≤ 32) (x : TokD) : openS E d ⟨x :: r, 0, fa⟩ = ⟨r, 0, fa⟩ := by unfold openS; rw [if_neg (by omega)]; rfl
theorem mustx (E : Int) (l : List UInt8) (g : Bool) : mustS E l ⟨sgT l g :: r, 0, fa⟩ = ⟨r, 0, fa⟩ := by unfold mustS; rw [if_pos (is_sg l g)]; rfl
end
section
variable {E : Int} {P : Nat → PSt → ExprT × PSt} {T : Bool → ExprT → List TokD} {W : ExprT → Prop} {S : List UInt8 → Prop} {d : Nat}
/-- A reader of expressions gives back what is written, deeper than d. -/
def RdE (P : Nat → PSt → ExprT × PSt) (T : Bool → ExprT → List TokD) (W : ExprT → Prop) (d : Nat) : Prop := ∀ d', d < d' → d' ≤ 32 → ∀ (g : Bool) (e : ExprT) (r : List TokD) (fa : Int), W e → Fit d' e → Stop LS r → P d' ⟨T g e ++ r, 0, fa⟩ = (e, ⟨r, 0, fa⟩)
theorem num_r (n : Int) (g : Bool) (r : List TokD) (fa : Int) : numS E ⟨nbT n g :: r, 0, fa⟩ = (n, true, ⟨r, 0, fa⟩) := by unfold numS kindS hdT nbT; simp [nextS]
theorem num_n {L : List (List UInt8)} {r : List TokD} {fa : Int} (h : Stop L r) : numS E ⟨r, 0, fa⟩ = (0, false, ⟨r, 0, fa⟩) := by
  unfold numS
  rw [if_neg (by rcases h.kind (fa := fa) with e | e <;> rw [e] <;> decide)]
theorem nb_is (n : Int) (g : Bool) (r : List TokD) (fa : Int) (l : List UInt8) : isS l ⟨nbT n g :: r, 0, fa⟩ = false := is_k (by simp [nbT]) l
theorem slice_r {a b c : Int} {ha hb : Bool} (a4 : ha = false → a = 0) (a5 : hb = false → b = 0) (g : Bool) {r : List TokD} (fa : Int) (hr : Stop [[44], [93]] r) : numbersS E ⟨sliceT g ⟨3, [], 0, a, b, c, ha, hb, none⟩ ++ r, 0, fa⟩ = (⟨3, [], 0, a, b, c, ha, hb, none⟩, ⟨r, 0, fa⟩) := by
  -- behind the second number
  have k3 : ∀ n ok, num2S E n ok ⟨(if hb = true then [nbT b false] else []) ++ (if c = 1 then [] else [sgT [58] false, nbT c false]) ++ r, 0, fa⟩ = (⟨3, [], 0, n, b, c, ok, hb, none⟩, ⟨r, 0, fa⟩) := by
    intro n ok
    have k1 : numS E ⟨(if hb = true then [nbT b false] else []) ++ (if c = 1 then [] else [sgT [58] false, nbT c false]) ++ r, 0, fa⟩ = (b, hb, ⟨(if c = 1 then [] else [sgT [58] false, nbT c false]) ++ r, 0, fa⟩) := by
      cases hb with
      | true => simp only [if_true, List.cons_append, List.nil_append]; exact num_r _ _ _ _
      | false =>
        rw [a5 rfl]
        simp only [Bool.false_eq_true, if_false, List.nil_append]
        by_cases hc : c = 1
        · rw [if_pos hc, List.nil_append]; exact num_n hr
        · rw [if_neg hc]; exact num_n (L := [[58]]) (Stop.sg _ _ _ (by simp))
    unfold num2S
    rw [k1]
    simp only
    by_cases hc : c = 1
    · subst hc
      simp only [if_true, List.nil_append]
      rw [if_neg (by rw [hr.is (by decide)]; simp)]
    · rw [if_neg hc]
      simp only [List.cons_append, List.nil_append]
      rw [if_pos (is_sg _ _), nx, num_r]
      simp
  unfold numbersS sliceT
  simp only
  cases ha with
  | true =>
    simp only [if_true, List.cons_append, List.nil_append, Bool.not_true, Bool.and_false]
    rw [num_r]
    simp only
    rw [if_pos (is_sg _ _), nx]
    have := k3 a true
    simpa using this
  | false =>
    simp only [Bool.false_eq_true, if_false, List.cons_append, List.nil_append, Bool.not_false, Bool.and_true]
    rw [num_n (L := [[58]]) (Stop.sg _ _ _ (by simp))]
    simp only
    rw [if_pos (is_sg _ _), nx]
    have := k3 0 false
    rw [a4 rfl]
    simpa using this
theorem sel_r (hP : RdE P T W d) {y : SelT} (h : WfS S W y) (hf : FitS d y) (g : Bool) {r : List TokD} (fa : Int) (hr : Stop [[44], [93]] r) : selF E P d ⟨selTk T g y ++ r, 0, fa⟩ = (y, ⟨r, 0, fa⟩) := by
  cases h with
  | nm s a =>
    show selF E P d ⟨stT s g :: r, 0, fa⟩ = _
    unfold selF
    rw [if_pos (show kindS ⟨stT s g :: r, 0, fa⟩ = 4 from rfl)]; rfl
  | wild =>
    show selF E P d ⟨sgT [42] g :: r, 0, fa⟩ = _
    unfold selF
    rw [if_neg (show ¬ kindS ⟨sgT [42] g :: r, 0, fa⟩ = 4 from by show ¬ ((1 : Int) = 4); decide), if_pos (is_sg _ _)]; rfl
  | idx n a =>
    show selF E P d ⟨nbT n g :: r, 0, fa⟩ = _
    unfold selF
    rw [if_neg (show ¬ kindS ⟨nbT n g :: r, 0, fa⟩ = 4 from by show ¬ ((3 : Int) = 4); decide), nb_is, nb_is, if_neg (by simp), if_neg (by simp), if_pos (by rw [show kindS ⟨nbT n g :: r, 0, fa⟩ = 3 from rfl]; simp)]
    unfold numbersS
    rw [num_r]
    simp only
    rw [if_neg (by rw [hr.is (by decide)]; simp)]
  | slice a b c ha hb a1 a2 a3 a4 a5 =>
    show selF E P d ⟨sliceT g ⟨3, [], 0, a, b, c, ha, hb, none⟩ ++ r, 0, fa⟩ = _
    have hs := slice_r (E := E) (a := a) (b := b) (c := c) a4 a5 g fa hr
    have hh : kindS ⟨sliceT g ⟨3, [], 0, a, b, c, ha, hb, none⟩ ++ r, 0, fa⟩ ≠ 4 ∧ isS [42] ⟨sliceT g ⟨3, [], 0, a, b, c, ha, hb, none⟩ ++ r, 0, fa⟩ = false ∧ isS [63] ⟨sliceT g ⟨3, [], 0, a, b, c, ha, hb, none⟩ ++ r, 0, fa⟩ = false ∧
        (decide (kindS ⟨sliceT g ⟨3, [], 0, a, b, c, ha, hb, none⟩ ++ r, 0, fa⟩ = 3) || isS [58] ⟨sliceT g ⟨3, [], 0, a, b, c, ha, hb, none⟩ ++ r, 0, fa⟩) = true := by
      cases ha with
      | true => exact ⟨by show (3 : Int) ≠ 4; decide, nb_is _ _ _ _ _, nb_is _ _ _ _ _, by rw [show kindS ⟨sliceT g ⟨3, [], 0, a, b, c, true, hb, none⟩ ++ r, 0, fa⟩ = 3 from rfl]; simp⟩
      | false => exact ⟨by show (1 : Int) ≠ 4; decide, is_ng (by decide) _, is_ng (by decide) _, by rw [show isS [58] ⟨sliceT g ⟨3, [], 0, a, b, c, false, hb, none⟩ ++ r, 0, fa⟩ = true from is_sg _ _]; simp⟩
    unfold selF
    rw [if_neg hh.1, hh.2.1, hh.2.2.1, if_neg (by simp), if_neg (by simp), if_pos hh.2.2.2, hs]
  | filt e a =>
    obtain ⟨f1, f2⟩ := hf e rfl
    show selF E P d ⟨sgT [63] g :: (T false e ++ r), 0, fa⟩ = _
    have hp := hP (d + 1) (by omega) f1 false e r fa a f2 (hr.mono (by decide))
    unfold selF
    rw [if_neg (show ¬ kindS ⟨sgT [63] g :: (T false e ++ r), 0, fa⟩ = 4 from by show ¬ ((1 : Int) = 4); decide), is_ng (by decide), if_neg (by simp), if_pos (is_sg _ _), opx E f1, hp]
theorem selsL_r (hP : RdE P T W d) {r : List TokD} (fa : Int) (g : Bool) : ∀ (l : List SelT), (∀ y ∈ l, WfS S W y ∧ FitS d y) → ∀ f, l.length ≤ f → selsL E P d f ⟨(l.flatMap fun y => sgT [44] false :: selTk T true y) ++ sgT [93] g :: r, 0, fa⟩ = (l, ⟨sgT [93] g :: r, 0, fa⟩)
  | [], _, f, _ => by
    cases f with
    | zero => rfl
    | succ f => rw [selsL, if_neg (by rw [show ([] : List SelT).flatMap (fun y => sgT [44] false :: selTk T true y) ++ sgT [93] g :: r = sgT [93] g :: r from rfl, is_ng (by decide)]; simp)]; rfl
  | y :: l, h, f, hf => by
    obtain ⟨f, rfl⟩ : ∃ k, f = k + 1 := ⟨f - 1, by simp at hf; omega⟩
    obtain ⟨h1, h2⟩ := h y (by simp)
    have hst : Stop [[44], [93]] ((l.flatMap fun y => sgT [44] false :: selTk T true y) ++ sgT [93] g :: r) := by
      cases l with
      | nil => exact Stop.sg _ _ _ (by simp)
      | cons z l => exact Stop.sg _ _ _ (by simp)
    have hs := sel_r (E := E) hP h1 h2 true fa hst
    have ih := selsL_r hP (r := r) fa g l (fun z hz => h z (by simp [hz])) f (by simp at hf; omega)
    rw [show ((y :: l).flatMap fun y => sgT [44] false :: selTk T true y) ++ sgT [93] g :: r = sgT [44] false :: (selTk T true y ++ ((l.flatMap fun y => sgT [44] false :: selTk T true y) ++ sgT [93] g :: r)) from by simp]
    rw [selsL, if_pos (is_sg _ _), nx, hs]
    simp only
    rw [ih]
theorem flat_ge {α : Type} (f : α → List TokD) (hf : ∀ x, 1 ≤ (f x).length) : ∀ l : List α, l.length ≤ (l.flatMap f).length
  | [] => Nat.le_refl _
  | x :: r => by
    have := flat_ge f hf r
    have := hf x
    rw [List.flatMap_cons, List.length_append, List.length_cons]; omega
theorem sels_r (hP : RdE P T W d) {l : List SelT} (h0 : l ≠ []) (h : ∀ y ∈ l, WfS S W y ∧ FitS d y) (g : Bool) {r : List TokD} (fa : Int) : selsF E P d ⟨sgT [91] g :: (joinT (sgT [44] false) (selTk T) false l ++ sgT [93] false :: r), 0, fa⟩ = (l, ⟨r, 0, fa⟩) := by
  match l, h0 with
  | y :: l, _ =>
    obtain ⟨h1, h2⟩ := h y (by simp)
    have hst : Stop [[44], [93]] ((l.flatMap fun y => sgT [44] false :: selTk T true y) ++ sgT [93] false :: r) := by
      cases l with
      | nil => exact Stop.sg _ _ _ (by simp)
      | cons z l => exact Stop.sg _ _ _ (by simp)
    have hs := sel_r (E := E) hP h1 h2 false fa hst
    have hl := selsL_r (E := E) hP (r := r) fa false l (fun z hz => h z (by simp [hz])) ((l.flatMap fun y => sgT [44] false :: selTk T true y) ++ sgT [93] false :: r).length (by
      have := flat_ge (fun y => sgT [44] false :: selTk T true y) (fun _ => by simp) l
      rw [List.length_append]; omega)
    unfold selsF
    rw [mustx]
    rw [show joinT (sgT [44] false) (selTk T) false (y :: l) ++ sgT [93] false :: r = selTk T false y ++ ((l.flatMap fun y => sgT [44] false :: selTk T true y) ++ sgT [93] false :: r) from by simp [joinT]]
    rw [hs]
    simp only
    rw [hl]
    simp only
    rw [mustx]
theorem seg_r (hP : RdE P T W d) {s : SegT} (h0 : s.sels ≠ []) (h : ∀ y ∈ s.sels, WfS S W y ∧ FitS d y) {r : List TokD} (fa : Int) : segF E P d ⟨segTk T s ++ r, 0, fa⟩ = (s, ⟨r, 0, fa⟩) ∧ isSeg ⟨segTk T s ++ r, 0, fa⟩ = true := by
  obtain ⟨dp, sels⟩ := s
  have hs := fun g => sels_r (E := E) hP h0 h g (r := r) fa
  cases dp with
  | false =>
    rw [show segTk T ⟨false, sels⟩ ++ r = sgT [91] false :: (joinT (sgT [44] false) (selTk T) false sels ++ sgT [93] false :: r) from by simp [segTk]]
    refine ⟨?_, by unfold isSeg; rw [is_sg]; rfl⟩
    unfold segF
    rw [if_pos (is_sg _ _), hs]
  | true =>
    rw [show segTk T ⟨true, sels⟩ ++ r = sgT [46, 46] false :: sgT [91] false :: (joinT (sgT [44] false) (selTk T) false sels ++ sgT [93] false :: r) from by simp [segTk]]
    refine ⟨?_, by unfold isSeg; rw [is_sg]; simp⟩
    unfold segF
    rw [if_neg (by rw [is_ng (by decide)]; simp), is_sg, nx]
    rw [show closeS E ⟨sgT [91] false :: (joinT (sgT [44] false) (selTk T) false sels ++ sgT [93] false :: r), 0, fa⟩ = ⟨sgT [91] false :: (joinT (sgT [44] false) (selTk T) false sels ++ sgT [93] false :: r), 0, fa⟩ from by unfold closeS; rw [if_neg (by simp [hdT, sgT])]]
    unfold dotF
    rw [is_sg, if_pos (by rfl), hs]
theorem segsL_r (hP : RdE P T W d) {r : List TokD} (fa : Int) (hr : isSeg ⟨r, 0, fa⟩ = false) : ∀ (l : List SegT), (∀ s ∈ l, s.sels ≠ [] ∧ ∀ y ∈ s.sels, WfS S W y ∧ FitS d y) → ∀ f, l.length ≤ f → segsL E P d f ⟨l.flatMap (segTk T) ++ r, 0, fa⟩ = (l, ⟨r, 0, fa⟩)
  | [], _, f, _ => by
    cases f with
    | zero => rfl
    | succ f => rw [segsL, if_neg (by rw [show ([] : List SegT).flatMap (segTk T) ++ r = r from rfl, hr]; simp)]; rfl
  | s :: l, h, f, hf => by
    obtain ⟨f, rfl⟩ : ∃ k, f = k + 1 := ⟨f - 1, by simp at hf; omega⟩
    obtain ⟨h1, h2⟩ := h s (by simp)
    obtain ⟨k1, k2⟩ := seg_r (E := E) hP h1 h2 (r := l.flatMap (segTk T) ++ r) fa
    have ih := segsL_r hP fa hr l (fun z hz => h z (by simp [hz])) f (by simp at hf; omega)
    rw [List.flatMap_cons, List.append_assoc, segsL, if_pos k2, k1]
    simp only
    rw [ih]
theorem path_r (hP : RdE P T W d) {p : PathT} (h : WfP S W p) (hf : FitP d p) (g : Bool) {r : List TokD} (fa : Int) (hr : Stop LC r) : pathF E P d ⟨pathTk T g p ++ r, 0, fa⟩ = (p, ⟨r, 0, fa⟩) ∧ isPath ⟨pathTk T g p ++ r, 0, fa⟩ = true := by
  obtain ⟨ab, segs⟩ := p
  have hs := segsL_r (E := E) hP fa hr.seg segs (fun s hs => ⟨(h s hs).1, fun y hy => ⟨(h s hs).2 y hy, hf s hs y hy⟩⟩) (segs.flatMap (segTk T) ++ r).length (by
    have := flat_ge (segTk T) (fun s => by unfold segTk; simp; omega) segs
    rw [List.length_append]; omega)
  have e : pathTk T g ⟨ab, segs⟩ ++ r = sgT [if ab then 36 else 64] g :: (segs.flatMap (segTk T) ++ r) := rfl
  rw [e]
  cases ab with
  | true =>
    refine ⟨?_, by unfold isPath; rw [show isS [36] ⟨sgT [if true = true then 36 else 64] g :: (segs.flatMap (segTk T) ++ r), 0, fa⟩ = true from is_sg _ _]; simp⟩
    unfold pathF
    rw [nx, hs, show isS [36] ⟨sgT [if true = true then 36 else 64] g :: (segs.flatMap (segTk T) ++ r), 0, fa⟩ = true from is_sg _ _]
  | false =>
    refine ⟨?_, by unfold isPath; rw [show isS [64] ⟨sgT [if false = true then 36 else 64] g :: (segs.flatMap (segTk T) ++ r), 0, fa⟩ = true from is_sg _ _]; rfl⟩
    unfold pathF
    rw [nx, hs, show isS [36] ⟨sgT [if false = true then 36 else 64] g :: (segs.flatMap (segTk T) ++ r), 0, fa⟩ = false from is_ng (l := [64]) (by decide) _]
theorem side_r (hP : RdE P T W d) {x : SideT} (h : WfSide S W x) (hf : FitP d x.p) (g : Bool) {r : List TokD} (fa : Int) (hr : Stop LC r) : sideF E P d ⟨sideTk T g x ++ r, 0, fa⟩ = (x, ⟨r, 0, fa⟩) := by
  have lit : ∀ (x : SideT) (t : TokD), t.kind ≠ 1 → litS ⟨t :: r, 0, fa⟩ = some x → sideF E P d ⟨t :: r, 0, fa⟩ = (x, ⟨r, 0, fa⟩) := by
    intro x t hk hl
    unfold sideF
    rw [if_neg (by unfold isPath; rw [is_k hk, is_k hk]; simp), hl]; rfl
  cases h with
  | path p a =>
    obtain ⟨k1, k2⟩ := path_r (E := E) hP a hf g fa hr
    show sideF E P d ⟨pathTk T g p ++ r, 0, fa⟩ = _
    unfold sideF
    rw [if_pos k2, k1]
  | null => exact lit _ (nmT [110, 117, 108, 108] g) (by simp [nmT]) rfl
  | tru => exact lit _ (nmT [116, 114, 117, 101] g) (by simp [nmT]) rfl
  | fls => exact lit _ (nmT [102, 97, 108, 115, 101] g) (by simp [nmT]) rfl
  | num n a => exact lit _ (nbT n g) (by simp [nbT]) rfl
  | str s a => exact lit _ (stT s g) (by simp [stT]) rfl
theorem test_r (hP : RdE P T W d) {p : PathT} (h : WfP S W p) (hf : FitP d p) (g : Bool) {r : List TokD} (fa : Int) (hr : Stop L1 r) : cmpF E P d ⟨pathTk T g p ++ r, 0, fa⟩ = (tstE p, ⟨r, 0, fa⟩) := by
  have hs := side_r (E := E) hP (.path p h) hf g fa (hr.mono (by decide))
  rw [show sideTk T g ⟨false, 0, 0, [], p⟩ = pathTk T g p from rfl] at hs
  unfold cmpF
  rw [hs]
  unfold cmp2
  rw [if_pos hr.opn]; rfl
theorem op_r {op : Int} (h0 : 0 ≤ op) (h5 : op ≤ 5) (r : List TokD) (fa : Int) : opS ⟨sgT (opB op) true :: r, 0, fa⟩ = op ∧ opB op ∈ LC := by
  rcases (show op = 0 ∨ op = 1 ∨ op = 2 ∨ op = 3 ∨ op = 4 ∨ op = 5 from by omega) with rfl | rfl | rfl | rfl | rfl | rfl
  all_goals exact ⟨rfl, by decide⟩
theorem cmp_r (hP : RdE P T W d) {op : Int} {a b : SideT} (h0 : 0 ≤ op) (h5 : op ≤ 5) (ha : WfSide S W a) (hb : WfSide S W b) (h1 : a.lit ≠ b.lit) (h2 : singB (if a.lit then b.p else a.p) = true) (fa' : FitP d a.p) (fb : FitP d b.p) (g : Bool) {r : List TokD} (fa : Int) (hr : Stop L1 r) :
    cmpF E P d ⟨sideTk T g a ++ (sgT (opB op) true :: (sideTk T true b ++ r)), 0, fa⟩ = (⟨4, [], path0, op, a, b⟩, ⟨r, 0, fa⟩) := by
  obtain ⟨o1, o2⟩ := op_r h0 h5 (sideTk T true b ++ r) fa
  have hs := side_r (E := E) hP ha fa' g fa (Stop.sg (opB op) true (sideTk T true b ++ r) o2)
  have hs2 := side_r (E := E) hP hb fb true fa (hr.mono (by decide))
  unfold cmpF
  rw [hs]
  unfold cmp2
  rw [o1, if_neg (by omega), nx, hs2]
  simp only
  rw [if_neg (by rw [h2]; simp [h1])]
theorem round_r (hP : RdE P T W d) {e : ExprT} (hd : d + 1 ≤ 32) (h : W e) (hf : Fit (d + 1) e) (g : Bool) {r : List TokD} (fa : Int) : roundF E P d ⟨sgT [40] g :: (T false e ++ sgT [41] false :: r), 0, fa⟩ = (e, ⟨r, 0, fa⟩) := by
  have hp := hP (d + 1) (by omega) hd false e (sgT [41] false :: r) fa h hf (Stop.sg _ _ _ (by decide))
  unfold roundF
  rw [opx E hd, hp]
  simp only
  rw [mustx]
end
theorem listL_r {E : Int} {sg : List UInt8} {F : PSt → ExprT × PSt} {r : List TokD} {fa : Int} (hr : isS sg ⟨r, 0, fa⟩ = false) (K : Bool → ExprT → List TokD) : ∀ (l : List ExprT), (∀ k ∈ l, ∀ r', (r' = r ∨ ∃ r'', r' = sgT sg true :: r'') → F ⟨K true k ++ r', 0, fa⟩ = (k, ⟨r', 0, fa⟩)) → ∀ f, l.length ≤ f → listL E sg F f ⟨(l.flatMap fun k => sgT sg true :: K true k) ++ r, 0, fa⟩ = (l, ⟨r, 0, fa⟩)
  | [], _, f, _ => by
    cases f with
    | zero => rfl
    | succ f => rw [listL, if_neg (by rw [show (([] : List ExprT).flatMap fun k => sgT sg true :: K true k) ++ r = r from rfl, hr]; simp)]; rfl
  | y :: l, h, f, hf => by
    obtain ⟨f, rfl⟩ : ∃ k, f = k + 1 := ⟨f - 1, by simp at hf; omega⟩
    have hs := h y (by simp) ((l.flatMap fun k => sgT sg true :: K true k) ++ r) (by
      cases l with
      | nil => exact .inl rfl
      | cons z l => exact .inr ⟨_, rfl⟩)
    have ih := listL_r (E := E) hr K l (fun k hk => h k (by simp [hk])) f (by simp at hf; omega)
    rw [show ((y :: l).flatMap fun k => sgT sg true :: K true k) ++ r = sgT sg true :: (K true y ++ ((l.flatMap fun k => sgT sg true :: K true k) ++ r)) from by simp]
    rw [listL, if_pos (is_sg _ _), nx, hs]
    simp only
    rw [ih]
theorem list_r {E : Int} {sg : List UInt8} {kd : Int} {F : PSt → ExprT × PSt} {r : List TokD} {fa : Int} (hr : isS sg ⟨r, 0, fa⟩ = false) (K : Bool → ExprT → List TokD) (l : List ExprT) (h2 : 2 ≤ l.length) (g : Bool) (h : ∀ g, ∀ k ∈ l, ∀ r', (r' = r ∨ ∃ r'', r' = sgT sg true :: r'') → F ⟨K g k ++ r', 0, fa⟩ = (k, ⟨r', 0, fa⟩)) :
    listF E sg kd F ⟨joinT (sgT sg true) K g l ++ r, 0, fa⟩ = (mkE kd l, ⟨r, 0, fa⟩) := by
  match l, h2 with
  | x :: y :: l, _ =>
    have hx := h g x (by simp) (((y :: l).flatMap fun k => sgT sg true :: K true k) ++ r) (.inr ⟨_, rfl⟩)
    have hl := listL_r (E := E) (F := F) hr K (y :: l) (fun k hk => h true k (by simp at hk ⊢; exact .inr hk)) (((y :: l).flatMap fun k => sgT sg true :: K true k) ++ r).length (by
      have := flat_ge (fun k => sgT sg true :: K true k) (fun _ => by simp) (y :: l)
      rw [List.length_append]; omega)
    unfold listF
    rw [show joinT (sgT sg true) K g (x :: y :: l) ++ r = K g x ++ (((y :: l).flatMap fun k => sgT sg true :: K true k) ++ r) from by simp [joinT]]
    rw [hx]
    simp only
    rw [hl]
    simp [joinE]
theorem list_1 {E : Int} {sg : List UInt8} {kd : Int} {F : PSt → ExprT × PSt} {t : PSt} {x : ExprT} {r : List TokD} {fa : Int} (h : F t = (x, ⟨r, 0, fa⟩)) (hr : isS sg ⟨r, 0, fa⟩ = false) : listF E sg kd F t = (x, ⟨r, 0, fa⟩) := by
  unfold listF
  rw [h]
  simp only
  have : ∀ f, listL E sg F f ⟨r, 0, fa⟩ = ([], ⟨r, 0, fa⟩) := fun f => by
    cases f with
    | zero => rfl
    | succ f => rw [listL, if_neg (by rw [hr]; simp)]
  rw [this]
  simp [joinE]
/-- What is read of an expression that is written, at each kind's level. -/
def Reads3 (m : Bool) (E : Int) (P : Nat → PSt → ExprT × PSt) (T : Bool → ExprT → List TokD) (d : Nat) (x : ExprT) : Prop :=
  (∀ g r fa, Stop LS r → orF m E P d ⟨T g x ++ r, 0, fa⟩ = (x, ⟨r, 0, fa⟩)) ∧ (x.kind ≠ 0 → ∀ g r fa, Stop LA r → andF m E P d ⟨T g x ++ r, 0, fa⟩ = (x, ⟨r, 0, fa⟩)) ∧
  (¬ (x.kind = 0 ∨ x.kind = 1) → ∀ g r fa, Stop L1 r → oneF m E P d ⟨T g x ++ r, 0, fa⟩ = (x, ⟨r, 0, fa⟩))
theorem reads_one {m : Bool} {E : Int} {P : Nat → PSt → ExprT × PSt} {T : Bool → ExprT → List TokD} {d : Nat} {x : ExprT} (h : ∀ g r fa, Stop L1 r → oneF m E P d ⟨T g x ++ r, 0, fa⟩ = (x, ⟨r, 0, fa⟩)) : Reads3 m E P T d x := by
  have h2 : ∀ g r fa, Stop LA r → andF m E P d ⟨T g x ++ r, 0, fa⟩ = (x, ⟨r, 0, fa⟩) := fun g r fa hr => list_1 (h g r fa (hr.mono (by decide))) (hr.is (by decide))
  exact ⟨fun g r fa hr => list_1 (h2 g r fa (hr.mono (by decide))) (hr.is (by decide)), fun _ => h2, fun _ => h⟩
theorem kinds {S : List UInt8 → Prop} {n : Nat} {x : ExprT} (h : WfN S n x) : x.kind = 0 ∨ x.kind = 1 ∨ x.kind = 2 ∨ x.kind = 3 ∨ x.kind = 4 := by
  cases n with
  | zero => exact h.elim
  | succ n =>
    have h' : WfX S (WfN S n) x := h
    cases h' <;> simp [mkE, tstE]
theorem tk_or {n : Nat} {g : Bool} {l : List ExprT} : exprTk (n + 1) g (mkE 0 l) = joinT (sgT [124, 124] true) (fun g k => roundTk (exprTk n) (k.kind == 0) g k) g l := by rw [exprTk, if_pos (show (mkE 0 l).kind = 0 from rfl)]; rfl
theorem tk_and {n : Nat} {g : Bool} {l : List ExprT} : exprTk (n + 1) g (mkE 1 l) = joinT (sgT [38, 38] true) (fun g k => roundTk (exprTk n) (k.kind == 0 || k.kind == 1) g k) g l := by rw [exprTk, if_neg (by simp [mkE]), if_pos (show (mkE 1 l).kind = 1 from rfl)]; rfl
theorem tk_not {n : Nat} {g : Bool} {k : ExprT} : exprTk (n + 1) g (mkE 2 [k]) = sgT [33] g :: roundTk (exprTk n) (k.kind != 3) false k := by rw [exprTk, if_neg (by simp [mkE]), if_neg (by simp [mkE]), if_pos (show (mkE 2 [k]).kind = 2 from rfl)]; rfl
theorem tk_test {n : Nat} {g : Bool} {p : PathT} : exprTk (n + 1) g (tstE p) = pathTk (exprTk n) g p := by rw [exprTk, if_neg (by simp [tstE]), if_neg (by simp [tstE]), if_neg (by simp [tstE]), if_pos (show (tstE p).kind = 3 from rfl)]; rfl
theorem tk_cmp {n : Nat} {g : Bool} {op : Int} {a b : SideT} : exprTk (n + 1) g ⟨4, [], path0, op, a, b⟩ = sideTk (exprTk n) g a ++ (sgT (opB op) true :: sideTk (exprTk n) true b) := by rw [exprTk, if_neg (by simp), if_neg (by simp), if_neg (by simp), if_neg (by simp)]

end Go.Proofs.YtpcbcodmocmilaaGreatDoor
