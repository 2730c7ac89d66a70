/- G35: Sa, Sb, Ca, Cn, Sc, Sd joined. -/
import Derived.Lib.ItoaNum
import Derived.Lib.ItoaLen
import Derived.Test.YtpcbcodmocmilaaGreatDoorG01
import Derived.Test.YtpcbcodmocmilaaGreatDoorUc
import Derived.Test.YtpcbcodmocmilaaGreatDoorG16
namespace Go.Proofs.YtpcbcodmocmilaaGreatDoor
open Go.RowKit
/- Queries written: the mirror on lists (plain; no word of a dump). -/
section

def intL (n : Int) : List UInt8 := Lib.itoa n
def hexC (d : Nat) : UInt8 := if d < 10 then UInt8.ofNat (48 + d) else UInt8.ofNat (87 + d)
/-- A byte below 32. -/
def signB (c : UInt8) : List UInt8 :=
  92 :: (if c = 8 then [98] else if c = 12 then [102] else if c = 10 then [110] else if c = 13 then [114] else if c = 9 then [116]
  else [117, 48, 48, hexC (c.toNat / 16), hexC (c.toNat % 16)])
/-- A byte between marks m. -/
def escB (m c : UInt8) : List UInt8 := if c = m ∨ c = 92 then [92, c] else if c.toNat < 32 then signB c else [c]
def txtL (m : UInt8) (t : List UInt8) : List UInt8 := m :: (t.flatMap (escB m) ++ [m])
def sliceW (x : SelT) : List UInt8 := (if x.hf then intL x.fr else []) ++ (58 :: ((if x.ht then intL x.tt else []) ++ (if x.step = 1 then [] else 58 :: intL x.step)))
section
variable (E : ExprT → List UInt8)
def selW (x : SelT) : List UInt8 :=
  if x.kind = 0 then txtL 39 x.name
  else if x.kind = 1 then [42]
  else if x.kind = 2 then intL x.index
  else if x.kind = 3 then sliceW x
  else match x.f with | some e => 63 :: E e | none => [63]
/-- Written one behind the other, with something between. -/
def joinW {α : Type} (sep : List UInt8) (f : α → List UInt8) : List α → List UInt8
  | [] => []
  | [x] => f x
  | x :: y :: r => f x ++ sep ++ joinW sep f (y :: r)
def segW (s : SegT) : List UInt8 := (if s.deep then [46, 46] else []) ++ (91 :: (joinW [44, 32] (selW E) s.sels ++ [93]))
def pathW (p : PathT) : List UInt8 := (if p.abs then 36 else 64) :: p.segs.flatMap (segW E)
def sideW (x : SideT) : List UInt8 :=
  if !x.lit then pathW E x.p
  else if x.kind = 2 then intL x.n
  else if x.kind = 3 then txtL 39 x.s
  else if x.kind = 1 then (if x.n = 1 then [116, 114, 117, 101] else [102, 97, 108, 115, 101])
  else [110, 117, 108, 108]
/-- In round brackets, or not. -/
def roundW (b : Bool) (x : ExprT) : List UInt8 := if b then 40 :: (E x ++ [41]) else E x
end
def opB (op : Int) : List UInt8 := if op = 0 then [61, 61] else if op = 1 then [33, 61] else if op = 2 then [60] else if op = 3 then [60, 61] else if op = 4 then [62] else [62, 61]
def exprW : Nat → ExprT → List UInt8
  | 0, _ => []
  | n + 1, x =>
    if x.kind = 0 then joinW [32, 124, 124, 32] (fun k => roundW (exprW n) (k.kind == 0) k) x.kids
    else if x.kind = 1 then joinW [32, 38, 38, 32] (fun k => roundW (exprW n) (k.kind == 0 || k.kind == 1) k) x.kids
    else if x.kind = 2 then 33 :: (match x.kids with | k :: _ => roundW (exprW n) (k.kind != 3) k | [] => [])
    else if x.kind = 3 then pathW (exprW n) x.q
    else sideW (exprW n) x.left ++ (32 :: (opB x.op ++ 32 :: sideW (exprW n) x.right))
/-- What is written of a query. -/
def showT (p : PathT) : List UInt8 := pathW (exprW 200) p

end
/- Texts whose bytes are scalars: what utf.Right tells (plain; no word of a dump). -/
section

/-- The machine's state behind bytes. -/
def runU (st : Int) (l : List UInt8) : Int := l.foldl (fun s b => ustep s b.toNat) st
def rightL (l : List UInt8) : Bool := runU 0 l == 0
theorem runU_app (st : Int) (a b : List UInt8) : runU st (a ++ b) = runU (runU st a) b := by unfold runU; rw [List.foldl_append]
theorem runU_cons (st : Int) (c : UInt8) (r : List UInt8) : runU st (c :: r) = runU (ustep st c.toNat) r := rfl
theorem runU_nil (st : Int) : runU st [] = st := rfl
theorem us1b (b : Int) : ustep 1 b = if 128 ≤ b ∧ b ≤ 191 then 0 else 8 := by unfold ustep; simp
def okU (c : Int) : Prop := 0 ≤ c ∧ c ≤ 1114111 ∧ (c < 55296 ∨ 57343 < c)
theorem us0_a {b : Int} (h : b < 128) : ustep 0 b = 0 := by unfold ustep ufirst; rw [if_pos rfl, if_pos h]
theorem us0_b {b : Int} (h : 194 ≤ b ∧ b ≤ 223) : ustep 0 b = 1 := by unfold ustep ufirst; rw [if_pos rfl, if_neg (by omega), if_pos h]
theorem us0_c {b : Int} (h : 224 ≤ b ∧ b ≤ 239) : (b = 224 ∧ ustep 0 b = 4) ∨ (b = 237 ∧ ustep 0 b = 5) ∨ (b ≠ 224 ∧ b ≠ 237 ∧ ustep 0 b = 2) := by
  unfold ustep ufirst; rw [if_pos rfl, if_neg (by omega), if_neg (by omega)]
  by_cases h4 : b = 224
  · rw [if_pos h4]; exact .inl ⟨h4, rfl⟩
  · rw [if_neg h4]
    by_cases h5 : b = 237
    · rw [if_pos h5]; exact .inr (.inl ⟨h5, rfl⟩)
    · rw [if_neg h5, if_pos (by omega)]; exact .inr (.inr ⟨h4, h5, rfl⟩)
theorem us0_d {b : Int} (h : 240 ≤ b ∧ b ≤ 244) : (b = 240 ∧ ustep 0 b = 6) ∨ (b = 244 ∧ ustep 0 b = 7) ∨ (241 ≤ b ∧ b ≤ 243 ∧ ustep 0 b = 3) := by
  unfold ustep ufirst; rw [if_pos rfl, if_neg (by omega), if_neg (by omega), if_neg (by omega), if_neg (by omega), if_neg (by omega)]
  by_cases h4 : b = 240
  · rw [if_pos h4]; exact .inl ⟨h4, rfl⟩
  · rw [if_neg h4]
    by_cases h5 : b = 244
    · rw [if_neg (by omega), if_pos h5]; exact .inr (.inl ⟨h5, rfl⟩)
    · rw [if_pos (by omega)]; exact .inr (.inr ⟨by omega, by omega, rfl⟩)
set_option maxRecDepth 10000 in
/-- Bytes that begin with a scalar: they are right, and it is one. -/
theorem right_scal (l : List UInt8) (h : 0 < (scalV l).2) : runU 0 (l.take (scalV l).2.toNat) = 0 ∧ okU (scalV l).1 := by
  have b256 : ∀ b : UInt8, (b.toNat : Int) < 256 := fun b => by have := UInt8.toNat_lt b; omega
  cases l with
  | nil => exact absurd (show (0 : Int) < 0 from h) (by omega)
  | cons b0 r =>
    unfold scalV at h ⊢
    simp only at h ⊢
    by_cases h1 : (b0.toNat : Int) < 128
    · rw [if_pos h1]
      refine ⟨?_, by unfold okU; simp only; omega⟩
      show runU 0 [b0] = 0
      rw [runU_cons, us0_a h1, runU_nil]
    · rw [if_neg h1] at h ⊢
      by_cases h2 : 194 ≤ (b0.toNat : Int) ∧ (b0.toNat : Int) ≤ 223
      · rw [if_pos h2] at h ⊢
        cases r with
        | nil => exact absurd (show (0 : Int) < 0 from h) (by omega)
        | cons b1 r =>
          simp only at h ⊢
          by_cases h3 : 128 ≤ (b1.toNat : Int) ∧ (b1.toNat : Int) ≤ 191
          · rw [if_pos h3]
            refine ⟨?_, by unfold okU; simp only; omega⟩
            show runU 0 [b0, b1] = 0
            rw [runU_cons, us0_b h2, runU_cons, us1b, if_pos h3, runU_nil]
          · rw [if_neg h3] at h; exact absurd (show (0 : Int) < 0 from h) (by omega)
      · rw [if_neg h2] at h ⊢
        by_cases h3 : 224 ≤ (b0.toNat : Int) ∧ (b0.toNat : Int) ≤ 239
        · rw [if_pos h3] at h ⊢
          match r, h with
          | [], h => exact absurd (show (0 : Int) < 0 from h) (by omega)
          | [_], h => exact absurd (show (0 : Int) < 0 from h) (by omega)
          | b1 :: b2 :: r, h =>
            simp only at h ⊢
            obtain ⟨lo, hlo⟩ : ∃ lo, (if (b0.toNat : Int) = 224 then (160 : Int) else 128) = lo := ⟨_, rfl⟩
            obtain ⟨hi, hhi⟩ : ∃ hi, (if (b0.toNat : Int) = 237 then (159 : Int) else 191) = hi := ⟨_, rfl⟩
            rw [hlo, hhi] at h ⊢
            by_cases h4 : lo ≤ (b1.toNat : Int) ∧ (b1.toNat : Int) ≤ hi ∧ 128 ≤ (b2.toNat : Int) ∧ (b2.toNat : Int) ≤ 191
            · rw [if_pos h4]
              obtain ⟨q1, q2, q3, q4⟩ := h4
              have e : ustep (ustep 0 b0.toNat) b1.toNat = 1 ∧ 128 ≤ (b1.toNat : Int) ∧ (b1.toNat : Int) ≤ 191 ∧ ((b0.toNat : Int) = 224 → 160 ≤ (b1.toNat : Int)) ∧ ((b0.toNat : Int) = 237 → (b1.toNat : Int) ≤ 159) := by
                rcases us0_c h3 with ⟨e1, e2⟩ | ⟨e1, e2⟩ | ⟨e1, e2, e3⟩
                · rw [if_pos e1] at hlo; rw [if_neg (by omega)] at hhi; rw [e2, us4, if_pos (by omega)]; exact ⟨rfl, by omega, by omega, by omega, by omega⟩
                · rw [if_neg (by omega)] at hlo; rw [if_pos e1] at hhi; rw [e2, us5, if_pos (by omega)]; exact ⟨rfl, by omega, by omega, by omega, by omega⟩
                · rw [if_neg e1] at hlo; rw [if_neg e2] at hhi; rw [e3, us2, if_pos (by omega)]; exact ⟨rfl, by omega, by omega, by omega, by omega⟩
              refine ⟨?_, by unfold okU; simp only; omega⟩
              show runU 0 [b0, b1, b2] = 0
              rw [runU_cons, runU_cons, e.1, runU_cons, us1b, if_pos ⟨q3, q4⟩, runU_nil]
            · rw [if_neg h4] at h; exact absurd (show (0 : Int) < 0 from h) (by omega)
        · rw [if_neg h3] at h ⊢
          by_cases h4 : 240 ≤ (b0.toNat : Int) ∧ (b0.toNat : Int) ≤ 244
          · rw [if_pos h4] at h ⊢
            match r, h with
            | [], h => exact absurd (show (0 : Int) < 0 from h) (by omega)
            | [_], h => exact absurd (show (0 : Int) < 0 from h) (by omega)
            | [_, _], h => exact absurd (show (0 : Int) < 0 from h) (by omega)
            | b1 :: b2 :: b3 :: r, h =>
              simp only at h ⊢
              obtain ⟨lo, hlo⟩ : ∃ lo, (if (b0.toNat : Int) = 240 then (144 : Int) else 128) = lo := ⟨_, rfl⟩
              obtain ⟨hi, hhi⟩ : ∃ hi, (if (b0.toNat : Int) = 244 then (143 : Int) else 191) = hi := ⟨_, rfl⟩
              rw [hlo, hhi] at h ⊢
              by_cases h5 : lo ≤ (b1.toNat : Int) ∧ (b1.toNat : Int) ≤ hi ∧ 128 ≤ (b2.toNat : Int) ∧ (b2.toNat : Int) ≤ 191 ∧ 128 ≤ (b3.toNat : Int) ∧ (b3.toNat : Int) ≤ 191
              · rw [if_pos h5]
                obtain ⟨q1, q2, q3, q4, q5, q6⟩ := h5
                have e : ustep (ustep 0 b0.toNat) b1.toNat = 2 ∧ 128 ≤ (b1.toNat : Int) ∧ (b1.toNat : Int) ≤ 191 ∧ ((b0.toNat : Int) = 240 → 144 ≤ (b1.toNat : Int)) ∧ ((b0.toNat : Int) = 244 → (b1.toNat : Int) ≤ 143) := by
                  rcases us0_d h4 with ⟨e1, e2⟩ | ⟨e1, e2⟩ | ⟨e1, e2, e3⟩
                  · rw [if_pos e1] at hlo; rw [if_neg (by omega)] at hhi; rw [e2, us6, if_pos (by omega)]; exact ⟨rfl, by omega, by omega, by omega, by omega⟩
                  · rw [if_neg (by omega)] at hlo; rw [if_pos e1] at hhi; rw [e2, us7, if_pos (by omega)]; exact ⟨rfl, by omega, by omega, by omega, by omega⟩
                  · rw [if_neg (by omega)] at hlo; rw [if_neg (by omega)] at hhi; rw [e3, us3, if_pos (by omega)]; exact ⟨rfl, by omega, by omega, by omega, by omega⟩
                refine ⟨?_, by unfold okU; simp only; omega⟩
                show runU 0 [b0, b1, b2, b3] = 0
                rw [runU_cons, runU_cons, e.1, runU_cons, us2, if_pos ⟨q3, q4⟩, runU_cons, us1b, if_pos ⟨q5, q6⟩, runU_nil]
              · rw [if_neg h5] at h; exact absurd (show (0 : Int) < 0 from h) (by omega)
          · rw [if_neg h4] at h; exact absurd (show (0 : Int) < 0 from h) (by omega)

end
/- Trees that are read without a fault: their shape, how great they are (plain; no word of a dump). -/
section

def okN (n : Int) : Prop := -9007199254740991 ≤ n ∧ n ≤ 9007199254740991
section
variable (S : List UInt8 → Prop) (W : ExprT → Prop)
inductive WfS : SelT → Prop
  | nm (s : List UInt8) : S s → WfS ⟨0, s, 0, 0, 0, 0, false, false, none⟩
  | wild : WfS ⟨1, [], 0, 0, 0, 0, false, false, none⟩
  | idx (n : Int) : okN n → WfS ⟨2, [], n, 0, 0, 0, false, false, none⟩
  | slice (a b c : Int) (ha hb : Bool) : okN a → okN b → okN c → (ha = false → a = 0) → (hb = false → b = 0) → WfS ⟨3, [], 0, a, b, c, ha, hb, none⟩
  | filt (e : ExprT) : W e → WfS ⟨4, [], 0, 0, 0, 0, false, false, some e⟩
def WfP (p : PathT) : Prop := ∀ s ∈ p.segs, s.sels ≠ [] ∧ ∀ y ∈ s.sels, WfS S W y
inductive WfSide : SideT → Prop
  | path (p : PathT) : WfP S W p → WfSide ⟨false, 0, 0, [], p⟩
  | null : WfSide ⟨true, 0, 0, [], path0⟩
  | tru : WfSide ⟨true, 1, 1, [], path0⟩
  | fls : WfSide ⟨true, 1, 0, [], path0⟩
  | num (n : Int) : okN n → WfSide ⟨true, 2, n, [], path0⟩
  | str (s : List UInt8) : S s → WfSide ⟨true, 3, 0, s, path0⟩
inductive WfX : ExprT → Prop
  | or (l : List ExprT) : 2 ≤ l.length → (∀ k ∈ l, W k) → WfX (mkE 0 l)
  | and (l : List ExprT) : 2 ≤ l.length → (∀ k ∈ l, W k) → WfX (mkE 1 l)
  | not (k : ExprT) : W k → WfX (mkE 2 [k])
  | test (p : PathT) : WfP S W p → WfX (tstE p)
  | cmp (op : Int) (a b : SideT) : 0 ≤ op → op ≤ 5 → WfSide S W a → WfSide S W b → a.lit ≠ b.lit → singB (if a.lit then b.p else a.p) = true → WfX ⟨4, [], path0, op, a, b⟩
end
def WfN (S : List UInt8 → Prop) : Nat → ExprT → Prop
  | 0, _ => False
  | n + 1, x => WfX S (WfN S n) x
def wtS (w : ExprT → Nat) (y : SelT) : Nat := 1 + (match y.f with | none => 0 | some e => w e)
def wtG (w : ExprT → Nat) (s : SegT) : Nat := 1 + (s.sels.map (wtS w)).sum
def wtP (w : ExprT → Nat) (p : PathT) : Nat := 1 + (p.segs.map (wtG w)).sum
def wtN : Nat → ExprT → Nat
  | 0, _ => 0
  | n + 1, x => 1 + (x.kids.map (wtN n)).sum + wtP (wtN n) x.q + wtP (wtN n) x.left.p + wtP (wtN n) x.right.p
section
variable {S : List UInt8 → Prop} {W W' : ExprT → Prop}
theorem WfS.mono (h : ∀ e, W e → W' e) {y : SelT} (k : WfS S W y) : WfS S W' y := by
  cases k with
  | nm s a => exact .nm s a
  | wild => exact .wild
  | idx n a => exact .idx n a
  | slice a b c ha hb a1 a2 a3 a4 a5 => exact .slice a b c ha hb a1 a2 a3 a4 a5
  | filt e a => exact .filt e (h e a)
theorem WfP.mono (h : ∀ e, W e → W' e) {p : PathT} (k : WfP S W p) : WfP S W' p := fun s hs => ⟨(k s hs).1, fun y hy => ((k s hs).2 y hy).mono h⟩
theorem WfSide.mono (h : ∀ e, W e → W' e) {x : SideT} (k : WfSide S W x) : WfSide S W' x := by
  cases k with
  | path p a => exact .path p (a.mono h)
  | null => exact .null
  | tru => exact .tru
  | fls => exact .fls
  | num n a => exact .num n a
  | str s a => exact .str s a
theorem WfX.mono (h : ∀ e, W e → W' e) {x : ExprT} (k : WfX S W x) : WfX S W' x := by
  cases k with
  | or l a b => exact .or l a fun k hk => h k (b k hk)
  | and l a b => exact .and l a fun k hk => h k (b k hk)
  | not k a => exact .not k (h k a)
  | test p a => exact .test p (a.mono h)
  | cmp op a b a1 a2 a3 a4 a5 a6 => exact .cmp op a b a1 a2 (a3.mono h) (a4.mono h) a5 a6
end

/-- What the tokens bear. -/
def Tk (S : List UInt8 → Prop) (t : PSt) : Prop := ∀ x ∈ t.toks, okN x.n ∧ (x.kind = 2 ∨ x.kind = 4 → S x.s)
section
variable {S : List UInt8 → Prop} {E : Int} {t : PSt}
theorem Tk.fail (h : Tk S t) (a e : Int) : Tk S (failS a e t) := by unfold Tk; rw [failS_len]; exact h
theorem Tk.form (h : Tk S t) : Tk S (formS E t) := h.fail _ _
theorem Tk.next (h : Tk S t) : Tk S (nextS E t) := by
  unfold nextS
  split
  · split
    · rename_i x r e
      intro y hy
      exact h y (by rw [e]; exact List.mem_cons_of_mem _ hy)
    · exact h.form
  · exact h
theorem Tk.must (h : Tk S t) (l : List UInt8) : Tk S (mustS E l t) := by
  unfold mustS; split
  · exact h.next
  · exact h.form
theorem Tk.opn (h : Tk S t) (d : Nat) : Tk S (openS E d t) := by
  unfold openS; split
  · exact (h.fail _ _).next
  · exact h.next
theorem Tk.close (h : Tk S t) : Tk S (closeS E t) := by
  unfold closeS; split
  · exact h.form
  · exact h
theorem head_ok (h : kindS t ≠ 0) : t.fe = 0 ∧ ∃ r, t.toks = hdT t :: r := by
  unfold kindS hdT at *
  by_cases hf : t.fe = 0
  · rw [if_pos hf] at h ⊢
    refine ⟨hf, ?_⟩
    cases ht : t.toks with
    | nil => rw [ht] at h; exact absurd rfl h
    | cons x r => exact ⟨r, rfl⟩
  · rw [if_neg hf] at h; exact absurd rfl h
theorem Tk.hd (h : Tk S t) (hk : kindS t ≠ 0) : okN (hdT t).n ∧ (kindS t = 2 ∨ kindS t = 4 → S (hdT t).s) := by
  obtain ⟨_, r, hr⟩ := head_ok hk
  exact h (hdT t) (by rw [hr]; simp)
end
section
variable {S : List UInt8 → Prop} {E : Int} {P : Nat → PSt → ExprT × PSt} {n d : Nat}
/-- What a reader of expressions does, deeper than d. -/
def GP (S : List UInt8 → Prop) (P : Nat → PSt → ExprT × PSt) (n d : Nat) : Prop :=
  ∀ d', d < d' → d' ≤ 32 → ∀ t, Tk S t → Tk S (P d' t).2 ∧ ((P d' t).2.fe = 0 → WfN S n (P d' t).1 ∧ wtN n (P d' t).1 + 4 * (P d' t).2.toks.length ≤ 4 * t.toks.length)
variable (hP : GP S P n d) (hB : BadP P)
include hP hB
end
section
variable {S : List UInt8 → Prop} {E : Int} {P : Nat → PSt → ExprT × PSt} {n : Nat}
theorem GP.le {d d' : Nat} (h : GP S P n d) (hd : d ≤ d') : GP S P n d' := fun d2 h2 => h d2 (by omega)
end

end
/- Tokens of a text: numbers within bounds, as many as bytes at most; a query's shape (plain; no word of a dump). -/
section

end
/- The texts of a query's tokens: their bytes are scalars, and how many they are (plain; no word of a dump). -/
section

/-- What is asked of a name here: scalars, N bytes at most. -/
def SS (N : Nat) (t : List UInt8) : Prop := t.length ≤ N ∧ runU 0 t = 0
end
/- How long is what is written of a query (plain; no word of a dump). -/
section

theorem escB_len (m c : UInt8) : (escB m c).length ≤ 6 := by
  unfold escB signB
  (repeat' split) <;> simp
theorem escs_len (m : UInt8) : ∀ t : List UInt8, (t.flatMap (escB m)).length ≤ 6 * t.length
  | [] => by simp
  | c :: r => by
    have h1 := escB_len m c
    have h2 := escs_len m r
    rw [List.flatMap_cons, List.length_append, List.length_cons]; omega
theorem intL_len {n : Int} (h : okN n) : (intL n).length ≤ 21 := by
  unfold okN at h
  exact Lib.itoa_length_le n (by omega) (by omega)
section
variable {N : Nat} {W : ExprT → Prop} {E : ExprT → List UInt8} {w : ExprT → Nat}
end
theorem opB_len (op : Int) : (opB op).length ≤ 2 := by
  unfold opB; (repeat' split) <;> simp
end

end Go.Proofs.YtpcbcodmocmilaaGreatDoor
