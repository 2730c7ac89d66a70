/- G27: Sa, Sb joined. -/
import Derived.Lib.ItoaNum
import Derived.Test.YtpcbcodmocmilaaGreatDoorG01
import Derived.Test.YtpcbcodmocmilaaGreatDoorG03
namespace Go.Proofs.YtpcbcodmocmilaaGreatDoor
open Go.RowKit
/- Queries written: the mirror on lists (plain; no word of a dump). -/
section

def intL (n : Int) : List UInt8 := Lib.itoa n
def hexC (d : Nat) : UInt8 := if d < 10 then UInt8.ofNat (48 + d) else UInt8.ofNat (87 + d)
/-- A byte below 32. -/
def signB (c : UInt8) : List UInt8 :=
  92 :: (if c = 8 then [98] else if c = 12 then [102] else if c = 10 then [110] else if c = 13 then [114] else if c = 9 then [116]
  else [117, 48, 48, hexC (c.toNat / 16), hexC (c.toNat % 16)])
/-- A byte between marks m. -/
def escB (m c : UInt8) : List UInt8 := if c = m ∨ c = 92 then [92, c] else if c.toNat < 32 then signB c else [c]
def txtL (m : UInt8) (t : List UInt8) : List UInt8 := m :: (t.flatMap (escB m) ++ [m])
def sliceW (x : SelT) : List UInt8 := (if x.hf then intL x.fr else []) ++ (58 :: ((if x.ht then intL x.tt else []) ++ (if x.step = 1 then [] else 58 :: intL x.step)))
section
variable (E : ExprT → List UInt8)
def selW (x : SelT) : List UInt8 :=
  if x.kind = 0 then txtL 39 x.name
  else if x.kind = 1 then [42]
  else if x.kind = 2 then intL x.index
  else if x.kind = 3 then sliceW x
  else match x.f with | some e => 63 :: E e | none => [63]
/-- Written one behind the other, with something between. -/
def joinW {α : Type} (sep : List UInt8) (f : α → List UInt8) : List α → List UInt8
  | [] => []
  | [x] => f x
  | x :: y :: r => f x ++ sep ++ joinW sep f (y :: r)
def segW (s : SegT) : List UInt8 := (if s.deep then [46, 46] else []) ++ (91 :: (joinW [44, 32] (selW E) s.sels ++ [93]))
def pathW (p : PathT) : List UInt8 := (if p.abs then 36 else 64) :: p.segs.flatMap (segW E)
def sideW (x : SideT) : List UInt8 :=
  if !x.lit then pathW E x.p
  else if x.kind = 2 then intL x.n
  else if x.kind = 3 then txtL 39 x.s
  else if x.kind = 1 then (if x.n = 1 then [116, 114, 117, 101] else [102, 97, 108, 115, 101])
  else [110, 117, 108, 108]
/-- In round brackets, or not. -/
def roundW (b : Bool) (x : ExprT) : List UInt8 := if b then 40 :: (E x ++ [41]) else E x
end
def opB (op : Int) : List UInt8 := if op = 0 then [61, 61] else if op = 1 then [33, 61] else if op = 2 then [60] else if op = 3 then [60, 61] else if op = 4 then [62] else [62, 61]
def exprW : Nat → ExprT → List UInt8
  | 0, _ => []
  | n + 1, x =>
    if x.kind = 0 then joinW [32, 124, 124, 32] (fun k => roundW (exprW n) (k.kind == 0) k) x.kids
    else if x.kind = 1 then joinW [32, 38, 38, 32] (fun k => roundW (exprW n) (k.kind == 0 || k.kind == 1) k) x.kids
    else if x.kind = 2 then 33 :: (match x.kids with | k :: _ => roundW (exprW n) (k.kind != 3) k | [] => [])
    else if x.kind = 3 then pathW (exprW n) x.q
    else sideW (exprW n) x.left ++ (32 :: (opB x.op ++ 32 :: sideW (exprW n) x.right))
/-- What is written of a query. -/
def showT (p : PathT) : List UInt8 := pathW (exprW 200) p

end
/- Texts whose bytes are scalars: what utf.Right tells (plain; no word of a dump). -/
section

/-- The machine's state behind bytes. -/
def runU (st : Int) (l : List UInt8) : Int := l.foldl (fun s b => ustep s b.toNat) st
def rightL (l : List UInt8) : Bool := runU 0 l == 0
theorem runU_app (st : Int) (a b : List UInt8) : runU st (a ++ b) = runU (runU st a) b := by unfold runU; rw [List.foldl_append]
theorem runU_cons (st : Int) (c : UInt8) (r : List UInt8) : runU st (c :: r) = runU (ustep st c.toNat) r := rfl
theorem runU_nil (st : Int) : runU st [] = st := rfl
theorem right_app {a b : List UInt8} (h : runU 0 a = 0) (h2 : runU 0 b = 0) : runU 0 (a ++ b) = 0 := by rw [runU_app, h, h2]
theorem ofN (n : Int) (h0 : 0 ≤ n) (h1 : n < 256) : ((UInt8.ofNat n.toNat).toNat : Int) = n := by
  rw [UInt8.toNat_ofNat']; omega
theorem us1b (b : Int) : ustep 1 b = if 128 ≤ b ∧ b ≤ 191 then 0 else 8 := by unfold ustep; simp
/-- A scalar's bytes are right. -/
theorem right_put {c : Int} (h0 : 0 ≤ c) (h1 : c ≤ 1114111) (h2 : c < 55296 ∨ 57343 < c) : runU 0 (putV c) = 0 := by
  unfold putV
  split
  · rw [runU_cons, runU_nil, ofN _ (by omega) (by omega)]
    unfold ustep ufirst; (repeat' split) <;> omega
  · split
    · rw [runU_cons, runU_cons, runU_nil, ofN _ (by omega) (by omega), ofN _ (by omega) (by omega)]
      have e1 : ustep 0 (192 + c / 64) = 1 := by unfold ustep ufirst; (repeat' split) <;> omega
      rw [e1]
      unfold ustep; (repeat' split) <;> omega
    · split
      · rw [runU_cons, runU_cons, runU_cons, runU_nil, ofN _ (by omega) (by omega), ofN _ (by omega) (by omega), ofN _ (by omega) (by omega)]
        have e1 : ustep (ustep 0 (224 + c / 4096)) (128 + c / 64 % 64) = 1 := by unfold ustep ufirst; (repeat' split) <;> omega
        rw [e1]
        unfold ustep; (repeat' split) <;> omega
      · rw [runU_cons, runU_cons, runU_cons, runU_cons, runU_nil, ofN _ (by omega) (by omega), ofN _ (by omega) (by omega), ofN _ (by omega) (by omega), ofN _ (by omega) (by omega)]
        have e0 : (ustep 0 (240 + c / 262144) = 6 ∧ c / 262144 = 0) ∨ (ustep 0 (240 + c / 262144) = 3 ∧ 1 ≤ c / 262144 ∧ c / 262144 ≤ 3) ∨ (ustep 0 (240 + c / 262144) = 7 ∧ c / 262144 = 4) := by
          have hq : 0 ≤ c / 262144 ∧ c / 262144 ≤ 4 := by omega
          have h5 : c / 262144 = 0 ∨ c / 262144 = 1 ∨ c / 262144 = 2 ∨ c / 262144 = 3 ∨ c / 262144 = 4 := by omega
          rcases h5 with h | h | h | h | h <;> rw [h] <;> decide
        have e1 : ustep (ustep 0 (240 + c / 262144)) (128 + c / 4096 % 64) = 2 := by
          rcases e0 with ⟨e, hq⟩ | ⟨e, hq⟩ | ⟨e, hq⟩
          · rw [e, us6, if_pos (by omega)]
          · rw [e, us3, if_pos (by omega)]
          · rw [e, us7, if_pos (by omega)]
        rw [e1, us2, if_pos (by omega), us1b, if_pos (by omega)]

def okU (c : Int) : Prop := 0 ≤ c ∧ c ≤ 1114111 ∧ (c < 55296 ∨ 57343 < c)
theorem us0_a {b : Int} (h : b < 128) : ustep 0 b = 0 := by unfold ustep ufirst; rw [if_pos rfl, if_pos h]
theorem us0_b {b : Int} (h : 194 ≤ b ∧ b ≤ 223) : ustep 0 b = 1 := by unfold ustep ufirst; rw [if_pos rfl, if_neg (by omega), if_pos h]
theorem us0_c {b : Int} (h : 224 ≤ b ∧ b ≤ 239) : (b = 224 ∧ ustep 0 b = 4) ∨ (b = 237 ∧ ustep 0 b = 5) ∨ (b ≠ 224 ∧ b ≠ 237 ∧ ustep 0 b = 2) := by
  unfold ustep ufirst; rw [if_pos rfl, if_neg (by omega), if_neg (by omega)]
  by_cases h4 : b = 224
  · rw [if_pos h4]; exact .inl ⟨h4, rfl⟩
  · rw [if_neg h4]
    by_cases h5 : b = 237
    · rw [if_pos h5]; exact .inr (.inl ⟨h5, rfl⟩)
    · rw [if_neg h5, if_pos (by omega)]; exact .inr (.inr ⟨h4, h5, rfl⟩)
theorem us0_d {b : Int} (h : 240 ≤ b ∧ b ≤ 244) : (b = 240 ∧ ustep 0 b = 6) ∨ (b = 244 ∧ ustep 0 b = 7) ∨ (241 ≤ b ∧ b ≤ 243 ∧ ustep 0 b = 3) := by
  unfold ustep ufirst; rw [if_pos rfl, if_neg (by omega), if_neg (by omega), if_neg (by omega), if_neg (by omega), if_neg (by omega)]
  by_cases h4 : b = 240
  · rw [if_pos h4]; exact .inl ⟨h4, rfl⟩
  · rw [if_neg h4]
    by_cases h5 : b = 244
    · rw [if_neg (by omega), if_pos h5]; exact .inr (.inl ⟨h5, rfl⟩)
    · rw [if_pos (by omega)]; exact .inr (.inr ⟨by omega, by omega, rfl⟩)
set_option maxRecDepth 10000 in
/-- Bytes that begin with a scalar: they are right, and it is one. -/
theorem right_scal (l : List UInt8) (h : 0 < (scalV l).2) : runU 0 (l.take (scalV l).2.toNat) = 0 ∧ okU (scalV l).1 := by
  have b256 : ∀ b : UInt8, (b.toNat : Int) < 256 := fun b => by have := UInt8.toNat_lt b; omega
  cases l with
  | nil => exact absurd (show (0 : Int) < 0 from h) (by omega)
  | cons b0 r =>
    unfold scalV at h ⊢
    simp only at h ⊢
    by_cases h1 : (b0.toNat : Int) < 128
    · rw [if_pos h1]
      refine ⟨?_, by unfold okU; simp only; omega⟩
      show runU 0 [b0] = 0
      rw [runU_cons, us0_a h1, runU_nil]
    · rw [if_neg h1] at h ⊢
      by_cases h2 : 194 ≤ (b0.toNat : Int) ∧ (b0.toNat : Int) ≤ 223
      · rw [if_pos h2] at h ⊢
        cases r with
        | nil => exact absurd (show (0 : Int) < 0 from h) (by omega)
        | cons b1 r =>
          simp only at h ⊢
          by_cases h3 : 128 ≤ (b1.toNat : Int) ∧ (b1.toNat : Int) ≤ 191
          · rw [if_pos h3]
            refine ⟨?_, by unfold okU; simp only; omega⟩
            show runU 0 [b0, b1] = 0
            rw [runU_cons, us0_b h2, runU_cons, us1b, if_pos h3, runU_nil]
          · rw [if_neg h3] at h; exact absurd (show (0 : Int) < 0 from h) (by omega)
      · rw [if_neg h2] at h ⊢
        by_cases h3 : 224 ≤ (b0.toNat : Int) ∧ (b0.toNat : Int) ≤ 239
        · rw [if_pos h3] at h ⊢
          match r, h with
          | [], h => exact absurd (show (0 : Int) < 0 from h) (by omega)
          | [_], h => exact absurd (show (0 : Int) < 0 from h) (by omega)
          | b1 :: b2 :: r, h =>
            simp only at h ⊢
            obtain ⟨lo, hlo⟩ : ∃ lo, (if (b0.toNat : Int) = 224 then (160 : Int) else 128) = lo := ⟨_, rfl⟩
            obtain ⟨hi, hhi⟩ : ∃ hi, (if (b0.toNat : Int) = 237 then (159 : Int) else 191) = hi := ⟨_, rfl⟩
            rw [hlo, hhi] at h ⊢
            by_cases h4 : lo ≤ (b1.toNat : Int) ∧ (b1.toNat : Int) ≤ hi ∧ 128 ≤ (b2.toNat : Int) ∧ (b2.toNat : Int) ≤ 191
            · rw [if_pos h4]
              obtain ⟨q1, q2, q3, q4⟩ := h4
              have e : ustep (ustep 0 b0.toNat) b1.toNat = 1 ∧ 128 ≤ (b1.toNat : Int) ∧ (b1.toNat : Int) ≤ 191 ∧ ((b0.toNat : Int) = 224 → 160 ≤ (b1.toNat : Int)) ∧ ((b0.toNat : Int) = 237 → (b1.toNat : Int) ≤ 159) := by
                rcases us0_c h3 with ⟨e1, e2⟩ | ⟨e1, e2⟩ | ⟨e1, e2, e3⟩
                · rw [if_pos e1] at hlo; rw [if_neg (by omega)] at hhi; rw [e2, us4, if_pos (by omega)]; exact ⟨rfl, by omega, by omega, by omega, by omega⟩
                · rw [if_neg (by omega)] at hlo; rw [if_pos e1] at hhi; rw [e2, us5, if_pos (by omega)]; exact ⟨rfl, by omega, by omega, by omega, by omega⟩
                · rw [if_neg e1] at hlo; rw [if_neg e2] at hhi; rw [e3, us2, if_pos (by omega)]; exact ⟨rfl, by omega, by omega, by omega, by omega⟩
              refine ⟨?_, by unfold okU; simp only; omega⟩
              show runU 0 [b0, b1, b2] = 0
              rw [runU_cons, runU_cons, e.1, runU_cons, us1b, if_pos ⟨q3, q4⟩, runU_nil]
            · rw [if_neg h4] at h; exact absurd (show (0 : Int) < 0 from h) (by omega)
        · rw [if_neg h3] at h ⊢
          by_cases h4 : 240 ≤ (b0.toNat : Int) ∧ (b0.toNat : Int) ≤ 244
          · rw [if_pos h4] at h ⊢
            match r, h with
            | [], h => exact absurd (show (0 : Int) < 0 from h) (by omega)
            | [_], h => exact absurd (show (0 : Int) < 0 from h) (by omega)
            | [_, _], h => exact absurd (show (0 : Int) < 0 from h) (by omega)
            | b1 :: b2 :: b3 :: r, h =>
              simp only at h ⊢
              obtain ⟨lo, hlo⟩ : ∃ lo, (if (b0.toNat : Int) = 240 then (144 : Int) else 128) = lo := ⟨_, rfl⟩
              obtain ⟨hi, hhi⟩ : ∃ hi, (if (b0.toNat : Int) = 244 then (143 : Int) else 191) = hi := ⟨_, rfl⟩
              rw [hlo, hhi] at h ⊢
              by_cases h5 : lo ≤ (b1.toNat : Int) ∧ (b1.toNat : Int) ≤ hi ∧ 128 ≤ (b2.toNat : Int) ∧ (b2.toNat : Int) ≤ 191 ∧ 128 ≤ (b3.toNat : Int) ∧ (b3.toNat : Int) ≤ 191
              · rw [if_pos h5]
                obtain ⟨q1, q2, q3, q4, q5, q6⟩ := h5
                have e : ustep (ustep 0 b0.toNat) b1.toNat = 2 ∧ 128 ≤ (b1.toNat : Int) ∧ (b1.toNat : Int) ≤ 191 ∧ ((b0.toNat : Int) = 240 → 144 ≤ (b1.toNat : Int)) ∧ ((b0.toNat : Int) = 244 → (b1.toNat : Int) ≤ 143) := by
                  rcases us0_d h4 with ⟨e1, e2⟩ | ⟨e1, e2⟩ | ⟨e1, e2, e3⟩
                  · rw [if_pos e1] at hlo; rw [if_neg (by omega)] at hhi; rw [e2, us6, if_pos (by omega)]; exact ⟨rfl, by omega, by omega, by omega, by omega⟩
                  · rw [if_neg (by omega)] at hlo; rw [if_pos e1] at hhi; rw [e2, us7, if_pos (by omega)]; exact ⟨rfl, by omega, by omega, by omega, by omega⟩
                  · rw [if_neg (by omega)] at hlo; rw [if_neg (by omega)] at hhi; rw [e3, us3, if_pos (by omega)]; exact ⟨rfl, by omega, by omega, by omega, by omega⟩
                refine ⟨?_, by unfold okU; simp only; omega⟩
                show runU 0 [b0, b1, b2, b3] = 0
                rw [runU_cons, runU_cons, e.1, runU_cons, us2, if_pos ⟨q3, q4⟩, runU_cons, us1b, if_pos ⟨q5, q6⟩, runU_nil]
              · rw [if_neg h5] at h; exact absurd (show (0 : Int) < 0 from h) (by omega)
          · rw [if_neg h4] at h; exact absurd (show (0 : Int) < 0 from h) (by omega)

end

end Go.Proofs.YtpcbcodmocmilaaGreatDoor
