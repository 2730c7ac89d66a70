/- RG33: Tp, Hb joined. -/
import Derived.Lib.ItoaMem
import Derived.Test.YtpcbcodmocmilaaGreatDoorRG09
import Derived.Test.YtpcbcodmocmilaaGreatDoorRG31
import Derived.Test.YtpcbcodmocmilaaGreatDoorRG32
namespace Go.Proofs.YtpcbcodmocmilaaGreatDoor
open Go.RowKit
/- Queries read, plain: the tokens' places change nothing but a fault's place (no word of a dump). -/
section

/-- The same token, wherever it stands. -/
structure SameG (x y : TokD) : Prop where
  kind : x.kind = y.kind
  s : x.s = y.s
  n : x.n = y.n
  gap : x.gap = y.gap
def AllG : List TokD → List TokD → Prop
  | [], [] => True
  | x :: l, y :: m => SameG x y ∧ AllG l m
  | _, _ => False
theorem AllG.len : ∀ {l m : List TokD}, AllG l m → l.length = m.length
  | [], [], _ => rfl
  | _ :: _, _ :: _, h => by rw [List.length_cons, List.length_cons, AllG.len h.2]
  | [], _ :: _, h => h.elim
  | _ :: _, [], h => h.elim
structure StA (t t' : PSt) : Prop where
  toks : AllG t.toks t'.toks
  fe : t.fe = t'.fe
/-- The same tree, states alike. -/
structure ResA {α : Type} (a b : α × PSt) : Prop where
  eq : a.1 = b.1
  st : StA a.2 b.2
section
variable {E E' : Int} {t t' : PSt} (h : StA t t')
include h
theorem StA.hd : SameG (hdT t) (hdT t') := by
  unfold hdT
  rw [← h.fe]
  have := h.toks
  split
  · cases h1 : t.toks with
    | nil =>
      cases h2 : t'.toks with
      | nil => exact ⟨rfl, rfl, rfl, rfl⟩
      | cons y m => rw [h1, h2] at this; exact this.elim
    | cons x l =>
      cases h2 : t'.toks with
      | nil => rw [h1, h2] at this; exact this.elim
      | cons y m => rw [h1, h2] at this; exact this.1
  · exact ⟨rfl, rfl, rfl, rfl⟩
theorem StA.len : t.toks.length = t'.toks.length := h.toks.len
theorem StA.ov : ovS t = ovS t' := by
  unfold ovS
  rw [h.fe]
  have := h.len
  congr 1
  rw [Bool.eq_iff_iff, List.isEmpty_iff, List.isEmpty_iff]
  rw [← List.length_eq_zero_iff, ← List.length_eq_zero_iff, this]
theorem StA.ki : kindS t = kindS t' := h.hd.kind
theorem StA.is (l : List UInt8) : isS l t = isS l t' := by unfold isS; rw [h.ki, h.hd.s]
theorem StA.fail (a a' e : Int) : StA (failS a e t) (failS a' e t') := by
  unfold failS
  rw [← h.fe]
  split
  · exact ⟨h.toks, rfl⟩
  · exact h
theorem StA.form : StA (formS E t) (formS E' t') := h.fail _ _ _
theorem StA.next : StA (nextS E t) (nextS E' t') := by
  unfold nextS
  rw [← h.fe]
  have := h.toks
  split
  · cases h1 : t.toks with
    | nil =>
      cases h2 : t'.toks with
      | nil => exact h.form
      | cons y m => rw [h1, h2] at this; exact this.elim
    | cons x l =>
      cases h2 : t'.toks with
      | nil => rw [h1, h2] at this; exact this.elim
      | cons y m => rw [h1, h2] at this; exact ⟨this.2, rfl⟩
  · exact h
theorem StA.must (l : List UInt8) : StA (mustS E l t) (mustS E' l t') := by
  unfold mustS
  rw [h.is l]
  split
  · exact h.next
  · exact h.form
theorem StA.open (d : Nat) : StA (openS E d t) (openS E' d t') := by
  unfold openS
  split
  · exact (h.fail _ _ _).next
  · exact h.next
theorem StA.close : StA (closeS E t) (closeS E' t') := by
  unfold closeS
  rw [h.ov, h.hd.gap]
  split
  · exact h.form
  · exact h
theorem StA.num : (numS E t).1 = (numS E' t').1 ∧ (numS E t).2.1 = (numS E' t').2.1 ∧ StA (numS E t).2.2 (numS E' t').2.2 := by
  unfold numS
  rw [h.ki, h.hd.n]
  split
  · exact ⟨rfl, rfl, h.next⟩
  · exact ⟨rfl, rfl, h⟩
theorem StA.seg : isSeg t = isSeg t' := by unfold isSeg; rw [h.is, h.is, h.is]
theorem StA.path : isPath t = isPath t' := by unfold isPath; rw [h.is, h.is]
theorem StA.lit : litS t = litS t' := by unfold litS; rw [h.ki, h.hd.n, h.hd.s]
theorem StA.op : opS t = opS t' := by unfold opS; rw [h.ki, h.hd.s]
end
theorem ResA.map {α β : Type} {a b : α × PSt} (h : ResA a b) (g : α → β) : ResA (g a.1, a.2) (g b.1, b.2) := ⟨congrArg g h.eq, h.st⟩
theorem ResA.seq {α β γ : Type} {a a' : α × PSt} {b b' : PSt → β × PSt} (h : ResA a a') (g : α → β → γ) (h2 : ∀ s s', StA s s' → ResA (b s) (b' s')) : ResA (g a.1 (b a.2).1, (b a.2).2) (g a'.1 (b' a'.2).1, (b' a'.2).2) :=
  ⟨by have := (h2 _ _ h.st).eq; simp only; rw [h.eq, this], (h2 _ _ h.st).st⟩
def AlikeP (P P' : Nat → PSt → ExprT × PSt) : Prop := ∀ d t t', StA t t' → ResA (P d t) (P' d t')
section
variable {E E' : Int} {P P' : Nat → PSt → ExprT × PSt} (d : Nat)
theorem alike_num2S (n : Int) (ok : Bool) {t t' : PSt} (h : StA t t') : ResA (num2S E n ok t) (num2S E' n ok t') := by
  obtain ⟨e1, e2, h1⟩ := h.num (E := E) (E' := E')
  obtain ⟨e3, e4, h2⟩ := (h1.next (E := E) (E' := E')).num (E := E) (E' := E')
  unfold num2S
  rw [e1, e2, e3, e4, h1.is]
  split
  · exact ⟨rfl, h2⟩
  · exact ⟨rfl, h1⟩
theorem alike_numbersS {t t' : PSt} (h : StA t t') : ResA (numbersS E t) (numbersS E' t') := by
  obtain ⟨e1, e2, h1⟩ := h.num (E := E) (E' := E')
  unfold numbersS
  rw [e1, e2, h1.is]
  split
  · exact alike_num2S _ _ h1.next
  · exact ⟨rfl, h1⟩
variable (hP : AlikeP P P')
include hP
theorem alike_selF {t t' : PSt} (h : StA t t') : ResA (selF E P d t) (selF E' P' d t') := by
  unfold selF
  rw [h.ki, h.is, h.is, h.is, h.hd.s]
  split
  · exact ⟨rfl, h.next⟩
  split
  · exact ⟨rfl, h.next⟩
  split
  · exact (hP (d + 1) _ _ (h.open d)).map fun x => (⟨4, [], 0, 0, 0, 0, false, false, some x⟩ : SelT)
  split
  · exact alike_numbersS h
  · exact ⟨rfl, h.form⟩
theorem alike_selsL : ∀ (f : Nat) {t t' : PSt}, StA t t' → ResA (selsL E P d f t) (selsL E' P' d f t')
  | 0, _, _, h => ⟨rfl, h⟩
  | f + 1, t, t', h => by
    rw [selsL, selsL, h.is]
    split
    · exact (alike_selF d hP h.next).seq (fun x l => x :: l) fun s s' hs => alike_selsL f hs
    · exact ⟨rfl, h⟩
theorem alike_selsF {t t' : PSt} (h : StA t t') : ResA (selsF E P d t) (selsF E' P' d t') := by
  have h1 := alike_selF d hP (h.must (E := E) (E' := E') [91]) (E := E) (E' := E')
  have h2 := h1.seq (fun x l => x :: l) (b := fun s => selsL E P d s.toks.length s) (b' := fun s => selsL E' P' d s.toks.length s) fun s s' hs => by
    rw [hs.len]
    exact alike_selsL d hP _ hs
  exact ⟨h2.eq, h2.st.must [93]⟩
theorem alike_dotF (dp : Bool) {t t' : PSt} (h : StA t t') : ResA (dotF E P d dp t) (dotF E' P' d dp t') := by
  unfold dotF
  rw [h.ki, h.is, h.is, h.hd.s]
  split
  · exact (alike_selsF d hP h).map fun l => (⟨dp, l⟩ : SegT)
  split
  · exact ⟨rfl, h.next⟩
  split
  · exact ⟨rfl, h.next⟩
  · exact ⟨rfl, h.form⟩
theorem alike_segF {t t' : PSt} (h : StA t t') : ResA (segF E P d t) (segF E' P' d t') := by
  unfold segF
  rw [h.is, h.is]
  split
  · exact (alike_selsF d hP h).map fun l => (⟨false, l⟩ : SegT)
  · exact alike_dotF d hP _ h.next.close
theorem alike_segsL : ∀ (f : Nat) {t t' : PSt}, StA t t' → ResA (segsL E P d f t) (segsL E' P' d f t')
  | 0, _, _, h => ⟨rfl, h⟩
  | f + 1, t, t', h => by
    rw [segsL, segsL, h.seg]
    split
    · exact (alike_segF d hP h).seq (fun x l => x :: l) fun s s' hs => alike_segsL f hs
    · exact ⟨rfl, h⟩
theorem alike_pathF {t t' : PSt} (h : StA t t') : ResA (pathF E P d t) (pathF E' P' d t') := by
  unfold pathF
  rw [h.is, (h.next (E := E) (E' := E')).len]
  exact (alike_segsL d hP _ h.next).map fun l => (⟨isS [36] t', l⟩ : PathT)
theorem alike_sideF {t t' : PSt} (h : StA t t') : ResA (sideF E P d t) (sideF E' P' d t') := by
  unfold sideF
  rw [h.path, h.lit]
  split
  · exact (alike_pathF d hP h).map fun p => (⟨false, 0, 0, [], p⟩ : SideT)
  · cases litS t' with
    | some x => exact ⟨rfl, h.next⟩
    | none => exact ⟨rfl, h.form⟩
theorem alike_cmp2 (a : SideT) {t t' : PSt} (h : StA t t') : ResA (cmp2 E P d a t) (cmp2 E' P' d a t') := by
  have h1 := alike_sideF d hP (h.next (E := E) (E' := E')) (E := E) (E' := E')
  unfold cmp2
  rw [h.op, h1.eq]
  split
  · refine ⟨rfl, ?_⟩
    simp only
    split
    · exact h.form
    · exact h
  · refine ⟨rfl, ?_⟩
    have k : ∀ (b : Bool) (x y : PSt) (a a' : Int), StA x y → StA (if b = true then failS a 8 x else x) (if b = true then failS a' 8 y else y) := fun b x y a a' hxy => by
      cases b
      · exact hxy
      · exact hxy.fail _ _ _
    exact k _ _ _ _ _ h1.st
theorem alike_cmpF {t t' : PSt} (h : StA t t') : ResA (cmpF E P d t) (cmpF E' P' d t') := by
  have h1 := alike_sideF d hP h (E := E) (E' := E')
  unfold cmpF
  rw [h1.eq]
  exact alike_cmp2 d hP _ h1.st
theorem alike_roundF {t t' : PSt} (h : StA t t') : ResA (roundF E P d t) (roundF E' P' d t') := by
  have h1 := hP (d + 1) _ _ (h.open (E := E) (E' := E') d)
  exact ⟨h1.eq, h1.st.must [41]⟩
theorem alike_notF (m : Bool) {t t' : PSt} (h : StA t t') : ResA (notF m E P d t) (notF m E' P' d t') := by
  unfold notF
  rw [h.is, h.path]
  split
  · exact (alike_roundF d hP h).map fun x => mkE 2 [x]
  split
  · exact (alike_pathF d hP h).map fun p => mkE 2 [tstE p]
  · exact ⟨rfl, h.form⟩
theorem alike_oneF (m : Bool) {t t' : PSt} (h : StA t t') : ResA (oneF m E P d t) (oneF m E' P' d t') := by
  unfold oneF
  rw [h.is, h.is]
  split
  · exact alike_notF (d + 1) hP m (h.open d)
  split
  · exact alike_roundF d hP h
  · exact alike_cmpF d hP h
end
theorem alike_listL {E E' : Int} {sg : List UInt8} {F F' : PSt → ExprT × PSt} (hF : ∀ t t', StA t t' → ResA (F t) (F' t')) : ∀ (f : Nat) {t t' : PSt}, StA t t' → ResA (listL E sg F f t) (listL E' sg F' f t')
  | 0, _, _, h => ⟨rfl, h⟩
  | f + 1, t, t', h => by
    rw [listL, listL, h.is]
    split
    · exact (hF _ _ h.next).seq (fun x l => x :: l) fun s s' hs => alike_listL hF f hs
    · exact ⟨rfl, h⟩
theorem alike_listF {E E' : Int} {sg : List UInt8} {k : Int} {F F' : PSt → ExprT × PSt} (hF : ∀ t t', StA t t' → ResA (F t) (F' t')) {t t' : PSt} (h : StA t t') : ResA (listF E sg k F t) (listF E' sg k F' t') :=
  (hF _ _ h).seq (joinE k) (b := fun s => listL E sg F s.toks.length s) (b' := fun s => listL E' sg F' s.toks.length s) fun s s' hs => by
    rw [hs.len]
    exact alike_listL hF _ hs
theorem alike_orF {E E' : Int} {P P' : Nat → PSt → ExprT × PSt} (hP : AlikeP P P') (m : Bool) : AlikeP (orF m E P) (orF m E' P') := fun d _ _ h =>
  alike_listF (fun _ _ h => alike_listF (fun _ _ h => alike_oneF d hP m h) h) h
theorem alike_orS (m : Bool) (E E' : Int) : ∀ n, AlikeP (orS m E n) (orS m E' n)
  | 0 => fun _ _ _ h => ⟨rfl, h⟩
  | n + 1 => alike_orF (alike_orS m E E' n) m
theorem alike_parse1 (m : Bool) (E E' : Int) {t t' : PSt} (h : StA t t') : ResA (parse1 m E t) (parse1 m E' t') := by
  unfold parse1
  rw [h.is]
  split
  · exact alike_pathF 0 (alike_orS m E E' 34) h
  · exact alike_pathF 0 (alike_orS m E E' 34) h.form
/-- The same query, or the same fault elsewhere. -/
theorem alike_parse2 (m : Bool) (E E' : Int) {t t' : PSt} (h : StA t t') : match parse2 m E t with | .ok p => parse2 m E' t' = .ok p | .error (e, _) => ∃ a, parse2 m E' t' = .error (e, a) := by
  have h1 := alike_parse1 m E E' h
  have hu : StA (if ovS (parse1 m E t).2 then (parse1 m E t).2 else formS E (parse1 m E t).2) (if ovS (parse1 m E' t').2 then (parse1 m E' t').2 else formS E' (parse1 m E' t').2) := by
    rw [h1.st.ov]
    split
    · exact h1.st
    · exact h1.st.form
  unfold parse2
  rw [← h1.eq, ← hu.fe]
  generalize (if ovS (parse1 m E t).2 then (parse1 m E t).2 else formS E (parse1 m E t).2) = u
  by_cases hf : u.fe = 0
  · rw [if_pos hf, if_pos hf]
  · rw [if_neg hf, if_neg hf]
    exact ⟨_, rfl⟩

end
/- What is written is read, token by token; plain. -/
section

theorem digC_dig (d : Nat) (h : d < 10) : isDig (UInt8.ofNat (48 + d)) = true ∧ ((UInt8.ofNat (48 + d)).toNat : Int) = 48 + d := by
  have e : (UInt8.ofNat (48 + d)).toNat = 48 + d := by rw [UInt8.toNat_ofNat']; omega
  unfold isDig
  rw [e]
  refine ⟨by simp; omega, by omega⟩
theorem dec_rec (n : Nat) : Lib.decDigits n = (if n / 10 = 0 then [] else Lib.decDigits (n / 10)) ++ [UInt8.ofNat (48 + n % 10)] := by
  by_cases h : n < 10
  · rw [Lib.decDigits_one h, if_pos (by omega), Nat.mod_eq_of_lt h]; rfl
  · rw [Lib.decDigits, dif_neg h, if_neg (by omega)]
theorem numV_last (l : List UInt8) (c : UInt8) : numV (l ++ [c]) = capI (numV l) c := by unfold numV; rw [List.foldl_append]; rfl
/-- A number's digits. -/
theorem dec_num : ∀ (m n : Nat), n ≤ m → n ≤ 9007199254740991 → (∀ c ∈ Lib.decDigits n, isDig c = true) ∧ numV (Lib.decDigits n) = (n : Int) ∧ Lib.decDigits n ≠ [] ∧ (1 ≤ n → hd (Lib.decDigits n) 48 = false) ∧ (n = 0 → Lib.decDigits n = [48])
  | 0, n, hm, _ => by
    obtain rfl : n = 0 := by omega
    rw [Lib.decDigits_one (by omega)]
    exact ⟨by decide, by decide, by simp, by omega, fun _ => rfl⟩
  | m + 1, n, hm, h53 => by
    by_cases hn : n < 10
    · obtain ⟨h1, h2⟩ := digC_dig n hn
      rw [Lib.decDigits_one hn]
      refine ⟨fun c hc => by rw [List.mem_singleton.1 hc]; exact h1, ?_, by simp, fun h => ?_, fun h => by rw [h]; rfl⟩
      · show capI 0 (UInt8.ofNat (48 + n)) = _
        unfold capI; rw [h2]; omega
      · show (UInt8.ofNat (48 + n) == 48) = false
        rw [beq_eq_false_iff_ne]
        intro e
        rw [e] at h2
        have : ((48 : UInt8).toNat : Int) = 48 := rfl
        omega
    · obtain ⟨i1, i2, i3, i4, _⟩ := dec_num m (n / 10) (by omega) (by omega)
      obtain ⟨h1, h2⟩ := digC_dig (n % 10) (by omega)
      rw [dec_rec, if_neg (by omega)]
      refine ⟨fun c hc => ?_, ?_, by simp, fun _ => ?_, fun h => by omega⟩
      · rcases List.mem_append.1 hc with hc | hc
        · exact i1 c hc
        · rw [List.mem_singleton.1 hc]; exact h1
      · rw [numV_last, i2]
        unfold capI; rw [h2]; omega
      · have := i4 (by omega)
        cases hl : Lib.decDigits (n / 10) with
        | nil => exact absurd hl i3
        | cons x r => rw [hl] at this; exact this
theorem digN_every : ∀ l : List UInt8, (∀ c ∈ l, isDig c = true) → digN l = l.length
  | [], _ => rfl
  | c :: r, h => by
    rw [digN, if_pos (h c (by simp)), digN_every r fun x hx => h x (by simp [hx])]; simp
theorem num_back {n : Int} (h : okN n) : numT (intL n) = .ok (n, (intL n).length) := by
  unfold okN at h
  by_cases hn : 0 ≤ n
  · obtain ⟨N, rfl⟩ := Int.eq_ofNat_of_zero_le hn
    obtain ⟨h1, h2, h3, h4, h5⟩ := dec_num N N (Nat.le_refl _) (by omega)
    have e : intL (N : Int) = Lib.decDigits N := by unfold intL; exact Lib.itoa_nonneg N
    rw [e]
    have h45 : hd (Lib.decDigits N) 45 = false := by
      cases hl : Lib.decDigits N with
      | nil => exact absurd hl h3
      | cons x r =>
        have := h1 x (by rw [hl]; simp)
        show (x == 45) = false
        rw [beq_eq_false_iff_ne]
        intro ee; rw [ee] at this; revert this; decide
    have hd' := digN_every _ h1
    have hlen : (Lib.decDigits N).length ≠ 0 := fun e => h3 (List.eq_nil_of_length_eq_zero e)
    unfold numT
    rw [h45]
    simp only [Bool.false_eq_true, if_false, List.drop_zero, false_or]
    rw [hd', List.take_length, h2, if_neg, if_neg (by omega), Nat.zero_add]
    rintro (e1 | ⟨e1, e2⟩)
    · exact hlen e1
    · by_cases h0 : N = 0
      · rw [h5 h0] at e2; simp at e2
      · rw [h4 (by omega)] at e1; cases e1
  · obtain ⟨N, rfl⟩ : ∃ N : Nat, n = -(N : Int) := ⟨n.natAbs, by omega⟩
    obtain ⟨h1, h2, h3, h4, h5⟩ := dec_num N N (Nat.le_refl _) (by omega)
    have e : intL (-(N : Int)) = 45 :: Lib.decDigits N := by unfold intL; exact Lib.itoa_neg N (by omega)
    rw [e]
    have hd' := digN_every _ h1
    have hlen : (Lib.decDigits N).length ≠ 0 := fun e => h3 (List.eq_nil_of_length_eq_zero e)
    unfold numT
    rw [show hd (45 :: Lib.decDigits N) 45 = true from rfl]
    simp only [if_true, List.drop_succ_cons, List.drop_zero]
    rw [hd', List.take_length, h2, if_neg, if_neg (by omega)]
    · simp; omega
    · rintro (e1 | ⟨e1, _⟩)
      · exact hlen e1
      · rw [h4 (by omega)] at e1; cases e1
theorem int_head {n : Int} (h : okN n) : ∃ c r, intL n = c :: r ∧ c ≠ 34 ∧ c ≠ 39 ∧ (isDig c = true ∨ c = 45) := by
  unfold okN at h
  by_cases hn : 0 ≤ n
  · obtain ⟨N, rfl⟩ := Int.eq_ofNat_of_zero_le hn
    obtain ⟨h1, h2, h3, h4, h5⟩ := dec_num N N (Nat.le_refl _) (by omega)
    have e : intL (N : Int) = Lib.decDigits N := by unfold intL; exact Lib.itoa_nonneg N
    rw [e]
    cases hl : Lib.decDigits N with
    | nil => exact absurd hl h3
    | cons x r =>
      have hx := h1 x (by rw [hl]; simp)
      exact ⟨x, r, rfl, fun ee => by rw [ee] at hx; revert hx; decide, fun ee => by rw [ee] at hx; revert hx; decide, .inl hx⟩
  · obtain ⟨N, rfl⟩ : ∃ N : Nat, n = -(N : Int) := ⟨n.natAbs, by omega⟩
    exact ⟨45, Lib.decDigits N, by unfold intL; exact Lib.itoa_neg N (by omega), by decide, by decide, .inr rfl⟩
theorem tok_int {n : Int} (h : okN n) (q : List UInt8) (hq : Bnd3 q) : tokT (intL n ++ q) = .ok (3, [], n, (intL n).length) := by
  refine tokT_app3 _ q hq _ _ _ _ ?_
  obtain ⟨c, r, e, h1, h2, h3⟩ := int_head h
  have hb := num_back h
  rw [e] at hb ⊢
  unfold tokT
  simp only
  rw [if_neg (by simp [h1, h2]), if_pos h3, hb]
set_option maxRecDepth 100000 in
/-- The signs that stand alone whatever is behind. -/
theorem tok_sg1 (c : UInt8) (hc : c ∈ ([36, 64, 91, 93, 40, 41, 42, 44, 58, 63] : List UInt8)) (q : List UInt8) : tokT (c :: q) = .ok (1, [c], 0, 1) := by
  simp only [List.mem_cons, List.not_mem_nil, or_false] at hc
  rcases hc with rfl | rfl | rfl | rfl | rfl | rfl | rfl | rfl | rfl | rfl <;> rfl
set_option maxRecDepth 100000 in
theorem tok_sg2 (a b : UInt8) (hc : [a, b] ∈ ([[46, 46], [38, 38], [124, 124], [61, 61], [33, 61], [60, 61], [62, 61]] : List (List UInt8))) (q : List UInt8) : tokT (a :: b :: q) = .ok (1, [a, b], 0, 2) := by
  simp only [List.mem_cons, List.not_mem_nil, or_false, List.cons.injEq, and_true] at hc
  rcases hc with ⟨rfl, rfl⟩ | ⟨rfl, rfl⟩ | ⟨rfl, rfl⟩ | ⟨rfl, rfl⟩ | ⟨rfl, rfl⟩ | ⟨rfl, rfl⟩ | ⟨rfl, rfl⟩ <;> rfl
theorem find_at {α : Type} {P : α → Bool} {x : α} {ys : List α} (hx : P x = true) : ∀ xs : List α, (∀ y ∈ xs, P y = false) → (xs ++ x :: ys).find? P = some x
  | [], _ => by rw [List.nil_append, List.find?_cons, hx]
  | y :: r, h => by rw [List.cons_append, List.find?_cons, h y (by simp)]; exact find_at hx r fun z hz => h z (by simp [hz])
theorem two_ne' (a b : UInt8) (hb : b ≠ 61) : ([a, b] == [a, 61]) = false := by simp [hb]
set_option maxRecDepth 100000 in
theorem tok_g33 (b : UInt8) (hb : b ≠ 61) (q : List UInt8) : tokT (33 :: b :: q) = .ok (1, [33], 0, 1) := by
  have e2 : signsL.find? (fun x => (33 :: b :: q).take x.length == x) = some [33] := by
    refine find_at (ys := [[60], [62]]) rfl ([[46, 46], [38, 38], [124, 124], [61, 61], [33, 61], [60, 61], [62, 61], [36], [64], [46], [91], [93], [40], [41], [42], [44], [58], [63]] : List (List UInt8)) fun y hy => ?_
    simp only [List.mem_cons, List.not_mem_nil, or_false] at hy
    rcases hy with rfl | rfl | rfl | rfl | rfl | rfl | rfl | rfl | rfl | rfl | rfl | rfl | rfl | rfl | rfl | rfl | rfl | rfl <;> first | rfl | exact two_ne' 33 b hb
  have e1 : ¬ (0 < nameL (33 :: b :: q)) := by rw [show nameL (33 :: b :: q) = 0 from rfl]; omega
  unfold tokT
  simp only
  rw [if_neg (by decide), if_neg (by decide), if_neg e1, e2]; rfl
set_option maxRecDepth 100000 in
theorem tok_g60 (b : UInt8) (hb : b ≠ 61) (q : List UInt8) : tokT (60 :: b :: q) = .ok (1, [60], 0, 1) := by
  have e2 : signsL.find? (fun x => (60 :: b :: q).take x.length == x) = some [60] := by
    refine find_at (ys := [[62]]) rfl ([[46, 46], [38, 38], [124, 124], [61, 61], [33, 61], [60, 61], [62, 61], [36], [64], [46], [91], [93], [40], [41], [42], [44], [58], [63], [33]] : List (List UInt8)) fun y hy => ?_
    simp only [List.mem_cons, List.not_mem_nil, or_false] at hy
    rcases hy with rfl | rfl | rfl | rfl | rfl | rfl | rfl | rfl | rfl | rfl | rfl | rfl | rfl | rfl | rfl | rfl | rfl | rfl | rfl <;> first | rfl | exact two_ne' 60 b hb
  have e1 : ¬ (0 < nameL (60 :: b :: q)) := by rw [show nameL (60 :: b :: q) = 0 from rfl]; omega
  unfold tokT
  simp only
  rw [if_neg (by decide), if_neg (by decide), if_neg e1, e2]; rfl
set_option maxRecDepth 100000 in
theorem tok_g62 (b : UInt8) (hb : b ≠ 61) (q : List UInt8) : tokT (62 :: b :: q) = .ok (1, [62], 0, 1) := by
  have e2 : signsL.find? (fun x => (62 :: b :: q).take x.length == x) = some [62] := by
    refine find_at (ys := []) rfl ([[46, 46], [38, 38], [124, 124], [61, 61], [33, 61], [60, 61], [62, 61], [36], [64], [46], [91], [93], [40], [41], [42], [44], [58], [63], [33], [60]] : List (List UInt8)) fun y hy => ?_
    simp only [List.mem_cons, List.not_mem_nil, or_false] at hy
    rcases hy with rfl | rfl | rfl | rfl | rfl | rfl | rfl | rfl | rfl | rfl | rfl | rfl | rfl | rfl | rfl | rfl | rfl | rfl | rfl | rfl <;> first | rfl | exact two_ne' 62 b hb
  have e1 : ¬ (0 < nameL (62 :: b :: q)) := by rw [show nameL (62 :: b :: q) = 0 from rfl]; omega
  unfold tokT
  simp only
  rw [if_neg (by decide), if_neg (by decide), if_neg e1, e2]; rfl
theorem tok_sgn (a b : UInt8) (ha : a = 33 ∨ a = 60 ∨ a = 62) (hb : b ≠ 61) (q : List UInt8) : tokT (a :: b :: q) = .ok (1, [a], 0, 1) := by
  rcases ha with rfl | rfl | rfl
  · exact tok_g33 b hb q
  · exact tok_g60 b hb q
  · exact tok_g62 b hb q
theorem tok_nm (l : List UInt8) (h : l = [116, 114, 117, 101] ∨ l = [102, 97, 108, 115, 101] ∨ l = [110, 117, 108, 108]) (q : List UInt8) (hq : Bnd3 q) : tokT (l ++ q) = .ok (2, l, 0, l.length) := by
  refine tokT_app3 _ q hq _ _ _ _ ?_
  rcases h with rfl | rfl | rfl <;> rfl

/-- Bytes that are these tokens (their places left out). -/
inductive LexTo : List UInt8 → List TokD → Prop
  | nil : LexTo [] []
  | cons (g : Bool) (k : Int) (t : List UInt8) (v : Int) (n : Nat) (u : List UInt8) (l : List TokD) : tokT u = .ok (k, t, v, n) → bkN u = 0 → u ≠ [] → LexTo (u.drop n) l → LexTo (if g then 32 :: u else u) (⟨k, t, v, 0, g⟩ :: l)
theorem LexTo.run {u : List UInt8} {l : List TokD} (h : LexTo u l) : ∀ (f a : Nat), u.length < f → (0 < a ∨ bkN u = 0) → ∃ m, lexF f a u = .ok m ∧ AllG l m := by
  induction h with
  | nil => intro f a _ _; cases f <;> exact ⟨[], by simp [lexF], trivial⟩
  | cons g k t v n u l ht hb hu hl ih =>
    intro f a hf ha
    obtain ⟨f, rfl⟩ : ∃ k, f = k + 1 := ⟨f - 1, by omega⟩
    have hok := tokT_ok _ _ _ _ _ ht
    unfold tokOK at hok
    have hlen : (u.drop n).length < f := by
      rw [List.length_drop]
      cases g <;> simp at hf <;> omega
    cases g with
    | true =>
      have ha : 0 < a := by
        rcases ha with h | h
        · exact h
        · rw [if_pos rfl, bkN] at h; simp [isBk] at h
      obtain ⟨m, hm, hg⟩ := ih f (a + 1 + n) hlen (.inl (by omega))
      refine ⟨⟨k, t, v, a + 1, true⟩ :: m, ?_, ⟨⟨rfl, rfl, rfl, rfl⟩, hg⟩⟩
      have hbk : bkN (32 :: u) = 1 := by rw [bkN, if_pos (by decide), hb]
      rw [if_pos rfl, lexF, if_neg (by simp), hbk]
      rw [if_neg (by rintro ⟨_, e | e⟩; · omega
                     · exact hu (by simpa using e))]
      rw [show (32 :: u).drop 1 = u from rfl, ht]
      simp only
      rw [hm]; rfl
    | false =>
      obtain ⟨m, hm, hg⟩ := ih f (a + 0 + n) hlen (.inl (by omega))
      refine ⟨⟨k, t, v, a + 0, false⟩ :: m, ?_, ⟨⟨rfl, rfl, rfl, rfl⟩, hg⟩⟩
      rw [if_neg (by simp), lexF, if_neg hu, hb]
      rw [if_neg (by simp)]
      rw [List.drop_zero, ht]
      simp only
      rw [hm]; rfl

end

end Go.Proofs.YtpcbcodmocmilaaGreatDoor
