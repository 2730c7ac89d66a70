/- RG34: Hc, Hd joined. -/
import Derived.Test.YtpcbcodmocmilaaGreatDoorRG33
import Derived.Test.YtpcbcodmocmilaaGreatDoorRCa
namespace Go.Proofs.YtpcbcodmocmilaaGreatDoor
open Go.RowKit
/- The tokens of what is written; plain. -/
section

def sgT (l : List UInt8) (g : Bool) : TokD := ⟨1, l, 0, 0, g⟩
def nbT (n : Int) (g : Bool) : TokD := ⟨3, [], n, 0, g⟩
def stT (s : List UInt8) (g : Bool) : TokD := ⟨4, s, 0, 0, g⟩
def nmT (s : List UInt8) (g : Bool) : TokD := ⟨2, s, 0, 0, g⟩
def blk (g : Bool) (u : List UInt8) : List UInt8 := if g then 32 :: u else u
def sliceT (g : Bool) (x : SelT) : List TokD :=
  (if x.hf then [nbT x.fr g] else []) ++ (sgT [58] (g && !x.hf) :: ((if x.ht then [nbT x.tt false] else []) ++ (if x.step = 1 then [] else [sgT [58] false, nbT x.step false])))
def joinT {α : Type} (t : TokD) (f : Bool → α → List TokD) (g : Bool) : List α → List TokD
  | [] => []
  | x :: r => f g x ++ r.flatMap fun y => t :: f true y
section
variable (E : Bool → ExprT → List TokD)
def selTk (g : Bool) (x : SelT) : List TokD :=
  if x.kind = 0 then [stT x.name g] else if x.kind = 1 then [sgT [42] g] else if x.kind = 2 then [nbT x.index g] else if x.kind = 3 then sliceT g x
  else match x.f with | some e => sgT [63] g :: E false e | none => [sgT [63] g]
def segTk (s : SegT) : List TokD := (if s.deep then [sgT [46, 46] false] else []) ++ (sgT [91] false :: (joinT (sgT [44] false) (selTk E) false s.sels ++ [sgT [93] false]))
def pathTk (g : Bool) (p : PathT) : List TokD := sgT [if p.abs then 36 else 64] g :: p.segs.flatMap (segTk E)
def sideTk (g : Bool) (x : SideT) : List TokD :=
  if !x.lit then pathTk E g x.p else if x.kind = 2 then [nbT x.n g] else if x.kind = 3 then [stT x.s g]
  else if x.kind = 1 then [nmT (if x.n = 1 then [116, 114, 117, 101] else [102, 97, 108, 115, 101]) g] else [nmT [110, 117, 108, 108] g]
def roundTk (b g : Bool) (x : ExprT) : List TokD := if b then sgT [40] g :: (E false x ++ [sgT [41] false]) else E g x
end
def exprTk : Nat → Bool → ExprT → List TokD
  | 0, _, _ => []
  | n + 1, g, x =>
    if x.kind = 0 then joinT (sgT [124, 124] true) (fun g k => roundTk (exprTk n) (k.kind == 0) g k) g x.kids
    else if x.kind = 1 then joinT (sgT [38, 38] true) (fun g k => roundTk (exprTk n) (k.kind == 0 || k.kind == 1) g k) g x.kids
    else if x.kind = 2 then sgT [33] g :: (match x.kids with | k :: _ => roundTk (exprTk n) (k.kind != 3) false k | [] => [])
    else if x.kind = 3 then pathTk (exprTk n) g x.q
    else sideTk (exprTk n) g x.left ++ (sgT (opB x.op) true :: sideTk (exprTk n) true x.right)

/-- What is written reads as these tokens, whatever is behind that begins so that nothing goes on. -/
def LP (w : List UInt8) (T : Bool → List TokD) : Prop := ∀ (g : Bool) (r : List UInt8) (R : List TokD), Bnd3 r → LexTo r R → LexTo (blk g (w ++ r)) (T g ++ R)
theorem lex_tok {w r : List UInt8} {R : List TokD} {k : Int} {t : List UInt8} {v : Int} (g : Bool) (ht : tokT (w ++ r) = .ok (k, t, v, w.length)) (hw : ∃ c w', w = c :: w' ∧ isBk c = false) (h : LexTo r R) : LexTo (blk g (w ++ r)) (⟨k, t, v, 0, g⟩ :: R) := by
  obtain ⟨c, w', rfl, hc⟩ := hw
  refine LexTo.cons g k t v (c :: w').length _ R ht ?_ (by simp) (by rw [List.drop_left' rfl]; exact h)
  show bkN (c :: (w' ++ r)) = 0
  rw [bkN, hc]; rfl
theorem lp_tok {w : List UInt8} {k : Int} {t : List UInt8} {v : Int} (ht : ∀ r, Bnd3 r → tokT (w ++ r) = .ok (k, t, v, w.length)) (hw : ∃ c w', w = c :: w' ∧ isBk c = false) : LP w fun g => [⟨k, t, v, 0, g⟩] :=
  fun g r _ hr h => lex_tok g (ht r hr) hw h
theorem lp_txt {s : List UInt8} (h : runU 0 s = 0) : LP (txtL 39 s) fun g => [stT s g] := lp_tok (fun r _ => tok_txt s r h) ⟨39, _, rfl, by decide⟩
theorem dig_bk {c : UInt8} (h : isDig c = true ∨ c = 45) : isBk c = false := by
  rcases h with h | rfl
  · unfold isDig at h
    simp only [Bool.and_eq_true, decide_eq_true_eq] at h
    unfold isBk
    simp only [Bool.or_eq_false_iff, beq_eq_false_iff_ne]
    refine ⟨⟨⟨?_, ?_⟩, ?_⟩, ?_⟩ <;> (rintro rfl; revert h; decide)
  · decide
theorem lp_int {n : Int} (h : okN n) : LP (intL n) fun g => [nbT n g] := by
  obtain ⟨c, r, e, _, _, h3⟩ := int_head h
  exact lp_tok (fun r hr => tok_int h r hr) ⟨c, r, e, dig_bk h3⟩
theorem lp_nm {l : List UInt8} (h : l = [116, 114, 117, 101] ∨ l = [102, 97, 108, 115, 101] ∨ l = [110, 117, 108, 108]) : LP l fun g => [nmT l g] :=
  lp_tok (fun r hr => tok_nm l h r hr) (by rcases h with rfl | rfl | rfl <;> exact ⟨_, _, rfl, by decide⟩)
theorem lex_sg1 {c : UInt8} (hc : c ∈ ([36, 64, 91, 93, 40, 41, 42, 44, 58, 63] : List UInt8)) (g : Bool) {r : List UInt8} {R : List TokD} (h : LexTo r R) : LexTo (blk g (c :: r)) (sgT [c] g :: R) :=
  lex_tok (w := [c]) g (tok_sg1 c hc r) ⟨c, [], rfl, by simp only [List.mem_cons, List.not_mem_nil, or_false] at hc; rcases hc with rfl | rfl | rfl | rfl | rfl | rfl | rfl | rfl | rfl | rfl <;> decide⟩ h
theorem lex_sg2 {a b : UInt8} (hc : [a, b] ∈ ([[46, 46], [38, 38], [124, 124], [61, 61], [33, 61], [60, 61], [62, 61]] : List (List UInt8))) (g : Bool) {r : List UInt8} {R : List TokD} (h : LexTo r R) : LexTo (blk g (a :: b :: r)) (sgT [a, b] g :: R) :=
  lex_tok (w := [a, b]) g (tok_sg2 a b hc r) ⟨a, [b], rfl, by
    simp only [List.mem_cons, List.not_mem_nil, or_false, List.cons.injEq, and_true] at hc
    rcases hc with ⟨rfl, _⟩ | ⟨rfl, _⟩ | ⟨rfl, _⟩ | ⟨rfl, _⟩ | ⟨rfl, _⟩ | ⟨rfl, _⟩ | ⟨rfl, _⟩ <;> decide⟩ h
theorem lex_sgn {a b : UInt8} (ha : a = 33 ∨ a = 60 ∨ a = 62) (hb : b ≠ 61) (g : Bool) {r : List UInt8} {R : List TokD} (h : LexTo (b :: r) R) : LexTo (blk g (a :: b :: r)) (sgT [a] g :: R) :=
  lex_tok (w := [a]) g (tok_sgn a b ha hb r) ⟨a, [], rfl, by rcases ha with rfl | rfl | rfl <;> decide⟩ h
theorem bnd_sep {c : UInt8} (h : sep3 c = true) (r : List UInt8) : Bnd3 (c :: r) := .inr ⟨c, r, rfl, h⟩
/-! ## What is put together -/
section
variable {E : ExprT → List UInt8} {ET : Bool → ExprT → List TokD} {W : ExprT → Prop} {S : List UInt8 → Prop}
theorem lp_slice {a b c : Int} {ha hb : Bool} (h1 : okN a) (h2 : okN b) (h3 : okN c) : LP (sliceW ⟨3, [], 0, a, b, c, ha, hb, none⟩) fun g => sliceT g ⟨3, [], 0, a, b, c, ha, hb, none⟩ := by
  intro g r R hr h
  unfold sliceW sliceT
  simp only
  have k3 : Bnd3 ((if c = 1 then [] else 58 :: intL c) ++ r) ∧ LexTo ((if c = 1 then [] else 58 :: intL c) ++ r) ((if c = 1 then [] else [sgT [58] false, nbT c false]) ++ R) := by
    by_cases hc : c = 1
    · rw [if_pos hc, if_pos hc]; exact ⟨hr, h⟩
    · rw [if_neg hc, if_neg hc]
      exact ⟨bnd_sep (by decide) _, lex_sg1 (by simp) false (lp_int h3 false r R hr h)⟩
  have k2 : LexTo (58 :: ((if hb = true then intL b else []) ++ (if c = 1 then [] else 58 :: intL c) ++ r)) (sgT [58] false :: ((if hb = true then [nbT b false] else []) ++ (if c = 1 then [] else [sgT [58] false, nbT c false]) ++ R)) ∧
      LexTo ((if hb = true then intL b else []) ++ (if c = 1 then [] else 58 :: intL c) ++ r) ((if hb = true then [nbT b false] else []) ++ (if c = 1 then [] else [sgT [58] false, nbT c false]) ++ R) := by
    have : LexTo ((if hb = true then intL b else []) ++ (if c = 1 then [] else 58 :: intL c) ++ r) ((if hb = true then [nbT b false] else []) ++ (if c = 1 then [] else [sgT [58] false, nbT c false]) ++ R) := by
      cases hb with
      | true => rw [if_pos rfl, if_pos rfl, List.append_assoc, List.append_assoc]; exact lp_int h2 false _ _ k3.1 k3.2
      | false => simp only [Bool.false_eq_true, if_false, List.nil_append]; exact k3.2
    exact ⟨lex_sg1 (by simp) false this, this⟩
  cases ha with
  | true =>
    have := lp_int h1 g _ _ (bnd_sep (c := 58) (by decide) _) k2.1
    simpa using this
  | false =>
    have := lex_sg1 (c := 58) (by simp) g k2.2
    simpa using this
theorem lp_sel (hE : ∀ e, W e → LP (E e) fun g => ET g e) (hS : ∀ s, S s → runU 0 s = 0) {y : SelT} (h : WfS S W y) : LP (selW E y) fun g => selTk ET g y := by
  cases h with
  | nm s a => simpa [selW, selTk] using lp_txt (hS s a)
  | wild =>
    intro g r R hr h
    exact lex_sg1 (c := 42) (by simp) g h
  | idx n a => simpa [selW, selTk] using lp_int a
  | slice a b c ha hb a1 a2 a3 a4 a5 => simpa [selW, selTk] using lp_slice (ha := ha) (hb := hb) a1 a2 a3
  | filt e a =>
    intro g r R hr h
    exact lex_sg1 (c := 63) (by simp) g (hE e a false r R hr h)
theorem lp_join {α : Type} {f : α → List UInt8} {fT : Bool → α → List TokD} {s0 : List UInt8} {t : TokD} (hs : ∀ u U, LexTo (32 :: u) U → LexTo (s0 ++ 32 :: u) (t :: U)) (hb : ∀ u, Bnd3 (s0 ++ 32 :: u)) : ∀ l : List α, l ≠ [] → (∀ x ∈ l, LP (f x) fun g => fT g x) → LP (joinW (s0 ++ [32]) f l) fun g => joinT t fT g l
  | [], h, _ => absurd rfl h
  | [x], _, h => by
    have := h x (by simp)
    simpa [joinW, joinT] using this
  | x :: y :: r, _, h => by
    intro g u U hu hU
    have ih := lp_join hs hb (y :: r) (by simp) (fun z hz => h z (by simp [hz])) true u U hu hU
    have := h x (by simp) g _ _ (hb _) (hs _ _ ih)
    simpa [joinW, joinT, blk] using this
theorem lex_seg (hE : ∀ e, W e → LP (E e) fun g => ET g e) (hS : ∀ s, S s → runU 0 s = 0) {s : SegT} (h0 : s.sels ≠ []) (h : ∀ y ∈ s.sels, WfS S W y) {r : List UInt8} {R : List TokD} (hr : LexTo r R) : LexTo (segW E s ++ r) (segTk ET s ++ R) := by
  have h1 := lex_sg1 (c := 93) (by simp) false hr
  have hj := lp_join (s0 := [44]) (t := sgT [44] false) (fun u U hU => lex_sg1 (by simp) false hU) (fun u => bnd_sep (by decide) _) s.sels h0 (fun y hy => lp_sel hE hS (h y hy)) false _ _ (bnd_sep (c := 93) (by decide) r) h1
  have h2 := lex_sg1 (c := 91) (by simp) false hj
  unfold segW segTk
  cases hd : s.deep with
  | true =>
    have := lex_sg2 (a := 46) (b := 46) (by simp) false h2
    simpa [blk] using this
  | false => simpa [blk] using h2
theorem lex_segs (hE : ∀ e, W e → LP (E e) fun g => ET g e) (hS : ∀ s, S s → runU 0 s = 0) : ∀ (l : List SegT), (∀ s ∈ l, s.sels ≠ [] ∧ ∀ y ∈ s.sels, WfS S W y) → ∀ {r : List UInt8} {R : List TokD}, LexTo r R → LexTo (l.flatMap (segW E) ++ r) (l.flatMap (segTk ET) ++ R)
  | [], _, _, _, h => h
  | s :: l, hl, r, R, h => by
    have := lex_seg hE hS (hl s (by simp)).1 (hl s (by simp)).2 (lex_segs hE hS l (fun x hx => hl x (by simp [hx])) h)
    simpa using this
theorem lp_path (hE : ∀ e, W e → LP (E e) fun g => ET g e) (hS : ∀ s, S s → runU 0 s = 0) {p : PathT} (h : WfP S W p) : LP (pathW E p) fun g => pathTk ET g p := by
  intro g r R _ hr
  have := lex_segs hE hS p.segs h hr
  unfold pathW pathTk
  cases p.abs with
  | true => exact lex_sg1 (c := 36) (by simp) g this
  | false => exact lex_sg1 (c := 64) (by simp) g this
theorem lp_side (hE : ∀ e, W e → LP (E e) fun g => ET g e) (hS : ∀ s, S s → runU 0 s = 0) {x : SideT} (h : WfSide S W x) : LP (sideW E x) fun g => sideTk ET g x := by
  cases h with
  | path p a => simpa [sideW, sideTk] using lp_path hE hS a
  | null => simpa [sideW, sideTk] using lp_nm (l := [110, 117, 108, 108]) (by simp)
  | tru => simpa [sideW, sideTk] using lp_nm (l := [116, 114, 117, 101]) (by simp)
  | fls => simpa [sideW, sideTk] using lp_nm (l := [102, 97, 108, 115, 101]) (by simp)
  | num n a => simpa [sideW, sideTk] using lp_int a
  | str s a => simpa [sideW, sideTk] using lp_txt (hS s a)
theorem lp_round (b : Bool) {x : ExprT} (h : LP (E x) fun g => ET g x) : LP (roundW E b x) fun g => roundTk ET b g x := by
  cases b with
  | false => simpa [roundW, roundTk] using h
  | true =>
    intro g r R _ hr
    have h1 := lex_sg1 (c := 41) (by simp) false hr
    have h2 := lex_sg1 (c := 40) (by simp) g (h false _ _ (bnd_sep (c := 41) (by decide) r) h1)
    simpa [roundW, roundTk, blk] using h2
end
theorem lex_op {op : Int} (h0 : 0 ≤ op) (h5 : op ≤ 5) {u : List UInt8} {U : List TokD} (h : LexTo (32 :: u) U) : LexTo (32 :: (opB op ++ 32 :: u)) (sgT (opB op) true :: U) := by
  rcases (show op = 0 ∨ op = 1 ∨ op = 2 ∨ op = 3 ∨ op = 4 ∨ op = 5 from by omega) with rfl | rfl | rfl | rfl | rfl | rfl
  · exact lex_sg2 (a := 61) (b := 61) (by simp) true h
  · exact lex_sg2 (a := 33) (b := 61) (by simp) true h
  · exact lex_sgn (a := 60) (b := 32) (by simp) (by decide) true h
  · exact lex_sg2 (a := 60) (b := 61) (by simp) true h
  · exact lex_sgn (a := 62) (b := 32) (by simp) (by decide) true h
  · exact lex_sg2 (a := 62) (b := 61) (by simp) true h
theorem not_head {S : List UInt8 → Prop} {n : Nat} {k : ExprT} (h : WfN S n k) (r : List UInt8) : ∃ c u, roundW (exprW n) (k.kind != 3) k ++ r = c :: u ∧ c ≠ 61 := by
  cases n with
  | zero => exact h.elim
  | succ n =>
    have h' : WfX S (WfN S n) k := h
    cases h' with
    | test p a =>
      rw [show roundW (exprW (n + 1)) ((tstE p).kind != 3) (tstE p) = pathW (exprW n) p from by unfold roundW; rw [if_neg (by simp [tstE]), exprW, if_neg (by simp [tstE]), if_neg (by simp [tstE]), if_neg (by simp [tstE]), if_pos (show (tstE p).kind = 3 from rfl)]; rfl]
      exact ⟨if p.abs then 36 else 64, p.segs.flatMap (segW (exprW n)) ++ r, rfl, by cases p.abs <;> decide⟩
    | or l a b => exact ⟨40, _, by unfold roundW; rw [if_pos (by simp [mkE])]; rfl, by decide⟩
    | and l a b => exact ⟨40, _, by unfold roundW; rw [if_pos (by simp [mkE])]; rfl, by decide⟩
    | not k a => exact ⟨40, _, by unfold roundW; rw [if_pos (by simp [mkE])]; rfl, by decide⟩
    | cmp op a b a1 a2 a3 a4 a5 a6 => exact ⟨40, _, by unfold roundW; rw [if_pos (by simp)]; rfl, by decide⟩
theorem two_nil {l : List ExprT} (h : 2 ≤ l.length) : l ≠ [] := by rintro rfl; simp at h
theorem lp_expr {S : List UInt8 → Prop} (hS : ∀ s, S s → runU 0 s = 0) : ∀ (n : Nat) (x : ExprT), WfN S n x → LP (exprW n x) fun g => exprTk n g x
  | 0, _, h => h.elim
  | n + 1, x, h => by
    have h' : WfX S (WfN S n) x := h
    have ih := lp_expr hS n
    cases h' with
    | or l a b =>
      have := lp_join (s0 := [32, 124, 124]) (t := sgT [124, 124] true) (fun u U hU => lex_sg2 (a := 124) (b := 124) (by simp) true hU) (fun u => bnd_sep (by decide) _) l (two_nil a) (fun k hk => lp_round (k.kind == 0) (ih k (b k hk)))
      simpa [exprW, exprTk, mkE] using this
    | and l a b =>
      have := lp_join (s0 := [32, 38, 38]) (t := sgT [38, 38] true) (fun u U hU => lex_sg2 (a := 38) (b := 38) (by simp) true hU) (fun u => bnd_sep (by decide) _) l (two_nil a) (fun k hk => lp_round (k.kind == 0 || k.kind == 1) (ih k (b k hk)))
      simpa [exprW, exprTk, mkE] using this
    | not k a =>
      intro g r R hr hR
      have h1 := lp_round (k.kind != 3) (ih k a) false r R hr hR
      obtain ⟨c, u, e, hc⟩ := not_head a r
      rw [show blk false (roundW (exprW n) (k.kind != 3) k ++ r) = c :: u from e] at h1
      have h2 := lex_sgn (a := 33) (b := c) (by simp) hc g h1
      rw [← e] at h2
      rw [show exprW (n + 1) (mkE 2 [k]) = 33 :: roundW (exprW n) (k.kind != 3) k from by rw [exprW, if_neg (by simp [mkE]), if_neg (by simp [mkE]), if_pos (show (mkE 2 [k]).kind = 2 from rfl)]; rfl]
      show LexTo (blk g (_ ++ r)) (exprTk (n + 1) g _ ++ R)
      rw [show exprTk (n + 1) g (mkE 2 [k]) = sgT [33] g :: roundTk (exprTk n) (k.kind != 3) false k from by rw [exprTk, if_neg (by simp [mkE]), if_neg (by simp [mkE]), if_pos (show (mkE 2 [k]).kind = 2 from rfl)]; rfl]
      exact h2
    | test p a =>
      have := lp_path ih hS a
      rw [show exprW (n + 1) (tstE p) = pathW (exprW n) p from by rw [exprW, if_neg (by simp [tstE]), if_neg (by simp [tstE]), if_neg (by simp [tstE]), if_pos (show (tstE p).kind = 3 from rfl)]; rfl]
      intro g r R hr hR
      show LexTo (blk g (_ ++ r)) (exprTk (n + 1) g _ ++ R)
      rw [show exprTk (n + 1) g (tstE p) = pathTk (exprTk n) g p from by rw [exprTk, if_neg (by simp [tstE]), if_neg (by simp [tstE]), if_neg (by simp [tstE]), if_pos (show (tstE p).kind = 3 from rfl)]; rfl]
      exact this g r R hr hR
    | cmp op a b a1 a2 a3 a4 a5 a6 =>
      intro g r R hr hR
      have h1 := lp_side ih hS a4 true r R hr hR
      have h2 := lex_op a1 a2 h1
      have h3 := lp_side ih hS a3 g _ _ (bnd_sep (c := 32) (by decide) _) h2
      rw [show exprW (n + 1) ⟨4, [], path0, op, a, b⟩ = sideW (exprW n) a ++ (32 :: (opB op ++ 32 :: sideW (exprW n) b)) from by rw [exprW, if_neg (by simp), if_neg (by simp), if_neg (by simp), if_neg (by simp)]]
      show LexTo (blk g (_ ++ r)) (exprTk (n + 1) g _ ++ R)
      rw [show exprTk (n + 1) g ⟨4, [], path0, op, a, b⟩ = sideTk (exprTk n) g a ++ (sgT (opB op) true :: sideTk (exprTk n) true b) from by rw [exprTk, if_neg (by simp), if_neg (by simp), if_neg (by simp), if_neg (by simp)]]
      simpa using h3
/-- The tokens of a query that is written. -/
def showTk (p : PathT) : List TokD := pathTk (exprTk 200) false p
theorem show_lex {S : List UInt8 → Prop} (hS : ∀ s, S s → runU 0 s = 0) {p : PathT} (h : WfP S (WfN S 200) p) : LexTo (showT p) (showTk p) := by
  have := lp_path (lp_expr hS 200) hS h false [] [] (.inl rfl) .nil
  simpa [showT, showTk, blk] using this
theorem show_lexL {S : List UInt8 → Prop} (hS : ∀ s, S s → runU 0 s = 0) {p : PathT} (h : WfP S (WfN S 200) p) (hl : (showT p).length ≤ 4096) : ∃ m, lexL (showT p) = .ok m ∧ AllG (showTk p) m := by
  obtain ⟨m, hm, hg⟩ := (show_lex hS h).run ((showT p).length + 1) 0 (by omega) (.inr (by
    unfold showT pathW
    cases p.abs <;> rfl))
  refine ⟨m, ?_, hg⟩
  unfold lexL
  rw [if_neg (by omega), hm]
  cases m with
  | nil => have := AllG.len hg; unfold showTk pathTk at this; simp at this
  | cons x r => rfl

end
/- How deep a query that is read goes when it is written; plain. -/
section

/-- Written at a depth, an expression goes no deeper than 32. -/
inductive Fit : Nat → ExprT → Prop
  | or (d : Nat) (l : List ExprT) : (∀ k ∈ l, k.kind ≠ 0 → Fit d k) → (∀ k ∈ l, k.kind = 0 → d + 1 ≤ 32) → (∀ k ∈ l, k.kind = 0 → Fit (d + 1) k) → Fit d (mkE 0 l)
  | and (d : Nat) (l : List ExprT) : (∀ k ∈ l, ¬ (k.kind = 0 ∨ k.kind = 1) → Fit d k) → (∀ k ∈ l, k.kind = 0 ∨ k.kind = 1 → d + 1 ≤ 32) → (∀ k ∈ l, k.kind = 0 ∨ k.kind = 1 → Fit (d + 1) k) → Fit d (mkE 1 l)
  | not (d : Nat) (k : ExprT) : d + 1 ≤ 32 → (k.kind = 3 → Fit (d + 1) k) → (k.kind ≠ 3 → d + 2 ≤ 32) → (k.kind ≠ 3 → Fit (d + 2) k) → Fit d (mkE 2 [k])
  | test (d : Nat) (p : PathT) : (∀ s ∈ p.segs, ∀ y ∈ s.sels, ∀ e, y.f = some e → d + 1 ≤ 32) → (∀ s ∈ p.segs, ∀ y ∈ s.sels, ∀ e, y.f = some e → Fit (d + 1) e) → Fit d (tstE p)
  | cmp (d : Nat) (op : Int) (a b : SideT) : (∀ s ∈ a.p.segs, ∀ y ∈ s.sels, ∀ e, y.f = some e → d + 1 ≤ 32) → (∀ s ∈ a.p.segs, ∀ y ∈ s.sels, ∀ e, y.f = some e → Fit (d + 1) e) →
      (∀ s ∈ b.p.segs, ∀ y ∈ s.sels, ∀ e, y.f = some e → d + 1 ≤ 32) → (∀ s ∈ b.p.segs, ∀ y ∈ s.sels, ∀ e, y.f = some e → Fit (d + 1) e) → Fit d ⟨4, [], path0, op, a, b⟩
theorem Fit.mono {d : Nat} {x : ExprT} (h : Fit d x) : ∀ {d' : Nat}, d' ≤ d → Fit d' x := by
  induction h with
  | or d l a b c ih1 ih2 => exact fun hd => .or _ l (fun k hk h => ih1 k hk h hd) (fun k hk h => by have := b k hk h; omega) (fun k hk h => ih2 k hk h (by omega))
  | and d l a b c ih1 ih2 => exact fun hd => .and _ l (fun k hk h => ih1 k hk h hd) (fun k hk h => by have := b k hk h; omega) (fun k hk h => ih2 k hk h (by omega))
  | not d k a b c e ih1 ih2 => exact fun hd => .not _ k (by omega) (fun h => ih1 h (by omega)) (fun h => by have := c h; omega) (fun h => ih2 h (by omega))
  | test d p a b ih => exact fun hd => .test _ p (fun s hs y hy e he => by have := a s hs y hy e he; omega) (fun s hs y hy e he => ih s hs y hy e he (by omega))
  | cmp d op a b a1 a2 b1 b2 ih1 ih2 => exact fun hd => .cmp _ op a b (fun s hs y hy e he => by have := a1 s hs y hy e he; omega) (fun s hs y hy e he => ih1 s hs y hy e he (by omega)) (fun s hs y hy e he => by have := b1 s hs y hy e he; omega) (fun s hs y hy e he => ih2 s hs y hy e he (by omega))
def FitS (d : Nat) (y : SelT) : Prop := ∀ e, y.f = some e → d + 1 ≤ 32 ∧ Fit (d + 1) e
def FitP (d : Nat) (p : PathT) : Prop := ∀ s ∈ p.segs, ∀ y ∈ s.sels, FitS d y
theorem FitP.path0 (d : Nat) : FitP d path0 := fun s hs => by simp [Go.Proofs.YtpcbcodmocmilaaGreatDoor.path0] at hs
theorem FitS.none {d : Nat} {y : SelT} (h : y.f = none) : FitS d y := fun e he => by rw [h] at he; cases he
theorem Fit.tst {d : Nat} {p : PathT} (h : FitP d p) : Fit d (tstE p) := .test d p (fun s hs y hy e he => (h s hs y hy e he).1) (fun s hs y hy e he => (h s hs y hy e he).2)
theorem Fit.cm {d : Nat} {op : Int} {a b : SideT} (ha : FitP d a.p) (hb : FitP d b.p) : Fit d ⟨4, [], Go.Proofs.YtpcbcodmocmilaaGreatDoor.path0, op, a, b⟩ := .cmp d op a b (fun s hs y hy e he => (ha s hs y hy e he).1) (fun s hs y hy e he => (ha s hs y hy e he).2) (fun s hs y hy e he => (hb s hs y hy e he).1) (fun s hs y hy e he => (hb s hs y hy e he).2)
theorem ite_fail {c : Prop} [Decidable c] {a e : Int} {t : PSt} (he : (if c then failS a e t else t).fe = 0) (h : e ≠ 0) : t.fe = 0 := by
  split at he
  · exact absurd he (failS_fe h)
  · exact he
section
variable {E : Int} {P : Nat → PSt → ExprT × PSt} {d : Nat}
/-- What a reader of expressions gives, deeper than d. -/
def FP (P : Nat → PSt → ExprT × PSt) (d : Nat) : Prop := ∀ d', d < d' → d' ≤ 32 → ∀ t, (P d' t).2.fe = 0 → Fit d' (P d' t).1
variable (hP : FP P d) (hB : BadP P)
include hP hB
theorem call_f {t : PSt} (he : (P (d + 1) (openS E d t)).2.fe = 0) : d + 1 ≤ 32 ∧ Fit (d + 1) (P (d + 1) (openS E d t)).1 := by
  by_cases ho : (openS E d t).fe = 0
  · obtain ⟨_, h2, _⟩ := open_ok ho
    exact ⟨h2, hP (d + 1) (by omega) h2 _ he⟩
  · rw [hB (d + 1) _ ho] at he; exact absurd he ho
theorem sel_f {t : PSt} (he : (selF E P d t).2.fe = 0) : FitS d (selF E P d t).1 := by
  unfold selF at he ⊢
  split
  · exact .none rfl
  rename_i h1; rw [if_neg h1] at he
  split
  · exact .none rfl
  rename_i h2; rw [if_neg h2] at he
  split
  · rename_i h3
    rw [if_pos h3] at he
    have := call_f (E := E) hP hB he
    intro e hee
    obtain rfl := Option.some.inj hee
    exact this
  split
  · refine .none ?_
    unfold numbersS num2S
    (repeat' split) <;> rfl
  · exact .none rfl
theorem selsL_f : ∀ (f : Nat) (t : PSt), (selsL E P d f t).2.fe = 0 → ∀ y ∈ (selsL E P d f t).1, FitS d y
  | 0, t, _ => fun y hy => by simp [selsL] at hy
  | f + 1, t, he => by
    rw [selsL] at he ⊢
    by_cases hi : isS [44] t = true
    · rw [if_pos hi] at he ⊢
      simp only at he ⊢
      have hs := ok_of (fun hs => by rw [selsL_bad f hs]) he
      intro y hy
      rcases List.mem_cons.1 hy with rfl | hy
      · exact sel_f hP hB hs
      · exact selsL_f f _ he y hy
    · rw [if_neg hi]; exact fun y hy => by simp at hy
theorem sels_f {t : PSt} (he : (selsF E P d t).2.fe = 0) : ∀ y ∈ (selsF E P d t).1, FitS d y := by
  unfold selsF at he ⊢
  simp only at he ⊢
  obtain ⟨-, m1, -⟩ := must_ok he
  have hs := ok_of (fun hs => by rw [selsL_bad _ hs]) m1
  intro y hy
  rcases List.mem_cons.1 hy with rfl | hy
  · exact sel_f hP hB hs
  · exact selsL_f hP hB _ _ m1 y hy
theorem seg_f {t : PSt} (he : (segF E P d t).2.fe = 0) : ∀ y ∈ (segF E P d t).1.sels, FitS d y := by
  unfold segF at he ⊢
  by_cases h1 : isS [91] t = true
  · rw [if_pos h1] at he ⊢
    exact sels_f hP hB he
  · rw [if_neg h1] at he ⊢
    unfold dotF at he ⊢
    split
    · rename_i h2
      rw [if_pos h2] at he
      exact sels_f hP hB he
    split
    · intro y hy; simp at hy; rw [hy]; exact .none rfl
    split
    · intro y hy; simp at hy; rw [hy]; exact .none rfl
    · intro y hy; simp at hy
theorem segsL_f : ∀ (f : Nat) (t : PSt), (segsL E P d f t).2.fe = 0 → ∀ s ∈ (segsL E P d f t).1, ∀ y ∈ s.sels, FitS d y
  | 0, t, _ => fun y hy => by simp [segsL] at hy
  | f + 1, t, he => by
    rw [segsL] at he ⊢
    by_cases hi : isSeg t = true
    · rw [if_pos hi] at he ⊢
      simp only at he ⊢
      have hs := ok_of (fun hs => by rw [segsL_bad f hs]) he
      intro y hy
      rcases List.mem_cons.1 hy with rfl | hy
      · exact seg_f hP hB hs
      · exact segsL_f f _ he y hy
    · rw [if_neg hi]; exact fun y hy => by simp at hy
theorem path_f {t : PSt} (he : (pathF E P d t).2.fe = 0) : FitP d (pathF E P d t).1 := by
  unfold pathF at he ⊢
  exact segsL_f hP hB _ _ he
theorem side_f {t : PSt} (he : (sideF E P d t).2.fe = 0) : FitP d (sideF E P d t).1.p := by
  unfold sideF at he ⊢
  by_cases h1 : isPath t = true
  · rw [if_pos h1] at he ⊢
    exact path_f hP hB he
  · rw [if_neg h1] at he ⊢
    cases hl : litS t with
    | none => rw [hl] at he; exact absurd he (formS_fe _ _)
    | some x =>
      have hx : x.p = path0 := by
        unfold litS at hl
        (repeat' split at hl) <;> first | (obtain rfl := Option.some.inj hl; rfl) | cases hl
      simp only
      rw [hx]; exact FitP.path0 d
theorem cmp_f {t : PSt} (he : (cmpF E P d t).2.fe = 0) : Fit d (cmpF E P d t).1 ∧ (cmpF E P d t).1.kind ≠ 0 ∧ (cmpF E P d t).1.kind ≠ 1 := by
  have key := cmp2_bad (E := E) (P := P) (d := d) (t := (sideF E P d t).2) (sideF E P d t).1
  unfold cmpF at he ⊢
  have h1 := ok_of (fun hs => by rw [key hs]) he
  have ha := side_f hP hB h1
  unfold cmp2 at he ⊢
  by_cases ho : opS (sideF E P d t).2 < 0
  · rw [if_pos ho]
    exact ⟨.tst ha, by simp [tstE], by simp [tstE]⟩
  · rw [if_neg ho] at he ⊢
    simp only at he ⊢
    exact ⟨.cm ha (side_f hP hB (ite_fail he (by decide))), by simp, by simp⟩
theorem round_f {t : PSt} (he : (roundF E P d t).2.fe = 0) : d + 1 ≤ 32 ∧ Fit (d + 1) (roundF E P d t).1 := by
  unfold roundF at he ⊢
  simp only at he ⊢
  exact call_f hP hB (must_ok he).2.1
end
section
variable {E : Int} {P : Nat → PSt → ExprT × PSt}
theorem FP.le {d d' : Nat} (h : FP P d) (hd : d ≤ d') : FP P d' := fun d2 h2 => h d2 (by omega)
theorem not_f {m : Bool} {d : Nat} (hd : d + 1 ≤ 32) (hP : FP P (d + 1)) (hB : BadP P) {t : PSt} (he : (notF m E P (d + 1) t).2.fe = 0) : Fit d (notF m E P (d + 1) t).1 ∧ (notF m E P (d + 1) t).1.kind = 2 := by
  unfold notF at he ⊢
  by_cases h1 : isS [40] t = true
  · rw [if_pos h1] at he ⊢
    obtain ⟨k1, k2⟩ := round_f hP hB he
    exact ⟨.not d _ hd (fun _ => k2.mono (by omega)) (fun _ => by omega) (fun _ => k2), rfl⟩
  · rw [if_neg h1] at he ⊢
    by_cases h2 : isPath t = true
    · rw [if_pos h2] at he ⊢
      exact ⟨.not d _ hd (fun _ => .tst (path_f hP hB he)) (fun h => absurd rfl h) (fun h => absurd rfl h), rfl⟩
    · rw [if_neg h2] at he; exact absurd he (formS_fe _ _)
def FK (d : Nat) (c : ExprT → Prop) (x : ExprT) : Prop := Fit d x ∧ (c x → d + 1 ≤ 32 ∧ Fit (d + 1) x)
theorem one_f {m : Bool} {d : Nat} (hP : FP P d) (hB : BadP P) {t : PSt} (he : (oneF m E P d t).2.fe = 0) : FK d (fun x => x.kind = 0 ∨ x.kind = 1) (oneF m E P d t).1 := by
  unfold oneF at he ⊢
  by_cases h1 : isS [33] t = true
  · rw [if_pos h1] at he ⊢
    have hd := (open_ok (ok_of (fun hs => notF_bad m hs) he)).2.1
    obtain ⟨k1, k2⟩ := not_f hd (hP.le (Nat.le_add_right d 1)) hB he
    exact ⟨k1, fun h => by simp only at h; rw [k2] at h; omega⟩
  · rw [if_neg h1] at he ⊢
    by_cases h2 : isS [40] t = true
    · rw [if_pos h2] at he ⊢
      obtain ⟨k1, k2⟩ := round_f hP hB he
      exact ⟨k2.mono (by omega), fun _ => ⟨k1, k2⟩⟩
    · rw [if_neg h2] at he ⊢
      obtain ⟨k1, k2, k3⟩ := cmp_f hP hB he
      exact ⟨k1, fun h => absurd h (by omega)⟩
theorem listL_f {Q : ExprT → Prop} {F : PSt → ExprT × PSt} {sg : List UInt8} (hF : ∀ t, (F t).2.fe = 0 → Q (F t).1) : ∀ (f : Nat) (t : PSt), (listL E sg F f t).2.fe = 0 → (∀ t, t.fe ≠ 0 → (F t).2 = t) → ∀ y ∈ (listL E sg F f t).1, Q y
  | 0, t, _, _ => fun y hy => by simp [listL] at hy
  | f + 1, t, he, hb => by
    rw [listL] at he ⊢
    by_cases hi : isS sg t = true
    · rw [if_pos hi] at he ⊢
      simp only at he ⊢
      have hs := ok_of (fun hs => by rw [listL_bad f hs]) he
      intro y hy
      rcases List.mem_cons.1 hy with rfl | hy
      · exact hF _ hs
      · exact listL_f hF f _ he hb y hy
    · rw [if_neg hi]; exact fun y hy => by simp at hy
theorem list_f {Q R : ExprT → Prop} {F : PSt → ExprT × PSt} {sg : List UInt8} {k : Int} (hk : ∀ l : List ExprT, (∀ y ∈ l, Q y) → R (mkE k l)) (hQ : ∀ x, Q x → R x) (hF : ∀ t, (F t).2.fe = 0 → Q (F t).1) (hb : ∀ t, t.fe ≠ 0 → (F t).2 = t) {t : PSt} (he : (listF E sg k F t).2.fe = 0) : R (listF E sg k F t).1 := by
  unfold listF at he ⊢
  simp only at he ⊢
  have hs := ok_of (fun hs => by rw [listL_bad _ hs]) he
  have h1 := hF t hs
  have h2 := listL_f (E := E) (sg := sg) hF _ _ he hb
  unfold joinE
  split
  · exact hQ _ h1
  · refine hk _ fun y hy => ?_
    rcases List.mem_cons.1 hy with rfl | hy
    · exact h1
    · exact h2 y hy
theorem and_f {m : Bool} {d : Nat} (hP : FP P d) (hB : BadP P) {t : PSt} (he : (andF m E P d t).2.fe = 0) : FK d (fun x => x.kind = 0) (andF m E P d t).1 :=
  list_f (Q := FK d fun x => x.kind = 0 ∨ x.kind = 1) (R := FK d fun x => x.kind = 0) (fun l h => ⟨.and d l (fun k hk _ => (h k hk).1) (fun k hk hh => ((h k hk).2 hh).1) (fun k hk hh => ((h k hk).2 hh).2), fun h0 => by simp [mkE] at h0⟩)
    (fun x h => ⟨h.1, fun h0 => h.2 (.inl h0)⟩) (fun _ h => one_f hP hB h) (fun _ h => oneF_bad m h) he
theorem or_f {m : Bool} {d : Nat} (hP : FP P d) (hB : BadP P) {t : PSt} (he : (orF m E P d t).2.fe = 0) : Fit d (orF m E P d t).1 :=
  list_f (Q := FK d fun x => x.kind = 0) (R := Fit d) (fun l h => .or d l (fun k hk _ => (h k hk).1) (fun k hk hh => ((h k hk).2 hh).1) (fun k hk hh => ((h k hk).2 hh).2)) (fun _ h => h.1) (fun _ h => and_f hP hB h) (fun t h => andF_bad m t h) he
theorem orS_f (m : Bool) (E : Int) : ∀ (n d : Nat), 33 ≤ n + d + 1 → FP (orS m E n) d
  | 0, d, hn => fun d' h1 h2 => absurd h2 (by omega)
  | n + 1, d, hn => fun d' _ h2 t he => or_f (orS_f m E n d' (by omega)) (orS_bad m E n) he
/-- A query that is read goes, written, no deeper than 32. -/
theorem parse2_f {m : Bool} {t : PSt} {p : PathT} (hp : parse2 m E t = .ok p) : FitP 0 p := by
  unfold parse2 at hp
  have hfe : (if ovS (parse1 m E t).2 then (parse1 m E t).2 else formS E (parse1 m E t).2).fe = 0 ∧ (parse1 m E t).1 = p := by
    revert hp
    generalize (if ovS (parse1 m E t).2 then (parse1 m E t).2 else formS E (parse1 m E t).2) = u
    intro hp
    split at hp
    · rename_i h0; exact ⟨h0, Except.ok.inj hp⟩
    · cases hp
  obtain ⟨h0, rfl⟩ := hfe
  have h1 : (parse1 m E t).2.fe = 0 := by
    split at h0
    · exact h0
    · exact absurd h0 (formS_fe _ _)
  unfold parse1 at h1 ⊢
  exact path_f (orS_f m E 34 0 (by omega)) (orS_bad m E 34) h1
end

end

end Go.Proofs.YtpcbcodmocmilaaGreatDoor
