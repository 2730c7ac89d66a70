/- UTF-8: the machine of states is the ranges of bytes; plain (for the seats of laceworklaw16 on; no word of a dump in it). -/
import Derived.Test.YtihfhohdnjbahaaDoorA1
namespace Go.Proofs.YtihfhohdnjbahaaDoor

def ufirst (b : Int) : Int :=
  if b < 128 then 0 else if 194 ≤ b ∧ b ≤ 223 then 1 else if b = 224 then 4 else if b = 237 then 5 else if 225 ≤ b ∧ b ≤ 239 then 2
  else if b = 240 then 6 else if 241 ≤ b ∧ b ≤ 243 then 3 else if b = 244 then 7 else 8
def ustep (st b : Int) : Int :=
  if st = 0 then ufirst b
  else if st = 4 then (if 160 ≤ b ∧ b ≤ 191 then 1 else 8)
  else if st = 5 then (if 128 ≤ b ∧ b ≤ 159 then 1 else 8)
  else if st = 6 then (if 144 ≤ b ∧ b ≤ 191 then 2 else 8)
  else if st = 7 then (if 128 ≤ b ∧ b ≤ 143 then 2 else 8)
  else if 1 ≤ st ∧ st ≤ 3 then (if 128 ≤ b ∧ b ≤ 191 then st - 1 else 8)
  else 8
def ulead (b : Int) : Int := if 240 ≤ b then 3 else if 224 ≤ b then 2 else 1
/-- What a byte adds. -/
def uadd (i : Nat) (c b : Int) : Int :=
  if 0 < i then c * 64 + b % 64 else if b < 128 then b else if 240 ≤ b then b % 8 else if 224 ≤ b then b % 16 else b % 32
/-- The scalar with which bytes begin, by the machine. -/
def uscF : List UInt8 → Nat → Int → Int → Int × Int
  | [], _, _, _ => (0, 0)
  | b :: r, i, st, c =>
    if ustep st b.toNat = 8 then (0, 0)
    else if ustep st b.toNat = 0 then (uadd i c b.toNat, (i : Int) + 1)
    else uscF r (i + 1) (ustep st b.toNat) (uadd i c b.toNat)
/-- .., by ranges. -/
def scalV : List UInt8 → Int × Int
  | [] => (0, 0)
  | b0 :: r =>
    if (b0.toNat : Int) < 128 then ((b0.toNat : Int), 1)
    else if 194 ≤ (b0.toNat : Int) ∧ (b0.toNat : Int) ≤ 223 then
      (match r with
        | b1 :: _ => if 128 ≤ (b1.toNat : Int) ∧ (b1.toNat : Int) ≤ 191 then (((b0.toNat : Int) - 192) * 64 + ((b1.toNat : Int) - 128), 2) else (0, 0)
        | [] => (0, 0))
    else if 224 ≤ (b0.toNat : Int) ∧ (b0.toNat : Int) ≤ 239 then
      (match r with
        | b1 :: b2 :: _ => if (if (b0.toNat : Int) = 224 then 160 else 128) ≤ (b1.toNat : Int) ∧ (b1.toNat : Int) ≤ (if (b0.toNat : Int) = 237 then 159 else 191) ∧ 128 ≤ (b2.toNat : Int) ∧ (b2.toNat : Int) ≤ 191 then ((((b0.toNat : Int) - 224) * 64 + ((b1.toNat : Int) - 128)) * 64 + ((b2.toNat : Int) - 128), 3) else (0, 0)
        | _ => (0, 0))
    else if 240 ≤ (b0.toNat : Int) ∧ (b0.toNat : Int) ≤ 244 then
      (match r with
        | b1 :: b2 :: b3 :: _ => if (if (b0.toNat : Int) = 240 then 144 else 128) ≤ (b1.toNat : Int) ∧ (b1.toNat : Int) ≤ (if (b0.toNat : Int) = 244 then 143 else 191) ∧ 128 ≤ (b2.toNat : Int) ∧ (b2.toNat : Int) ≤ 191 ∧ 128 ≤ (b3.toNat : Int) ∧ (b3.toNat : Int) ≤ 191 then (((((b0.toNat : Int) - 240) * 64 + ((b1.toNat : Int) - 128)) * 64 + ((b2.toNat : Int) - 128)) * 64 + ((b3.toNat : Int) - 128), 4) else (0, 0)
        | _ => (0, 0))
    else (0, 0)

theorem uscF_nil (i : Nat) (st c : Int) : uscF [] i st c = (0, 0) := rfl
theorem uscF_dead (b : UInt8) (r : List UInt8) (i : Nat) (st c : Int) (h : ustep st b.toNat = 8) : uscF (b :: r) i st c = (0, 0) := by rw [uscF, if_pos h]
theorem uscF_end (b : UInt8) (r : List UInt8) (i : Nat) (st c : Int) (h : ustep st b.toNat = 0) : uscF (b :: r) i st c = (uadd i c b.toNat, (i : Int) + 1) := by rw [uscF, if_neg (by omega), if_pos h]
theorem uscF_go (b : UInt8) (r : List UInt8) (i : Nat) (st c t : Int) (h : ustep st b.toNat = t) (h0 : t ≠ 0) (h8 : t ≠ 8) : uscF (b :: r) i st c = uscF r (i + 1) t (uadd i c b.toNat) := by
  rw [uscF, if_neg (by omega), if_neg (by omega), h]
/-- The last byte of a scalar. -/
theorem uscF_one (r : List UInt8) (i : Nat) (c : Int) (hi : 0 < i) : uscF r i 1 c = match r with | b :: _ => if 128 ≤ (b.toNat : Int) ∧ (b.toNat : Int) ≤ 191 then (c * 64 + ((b.toNat : Int) - 128), (i : Int) + 1) else (0, 0) | [] => (0, 0) := by
  cases r with
  | nil => rfl
  | cons b r =>
    by_cases h : 128 ≤ (b.toNat : Int) ∧ (b.toNat : Int) ≤ 191
    · have hs : ustep 1 b.toNat = 0 := by unfold ustep; simp; omega
      rw [uscF_end b r i 1 c hs]; simp only; rw [if_pos h, uadd, if_pos hi]
      congr 2; omega
    · have hs : ustep 1 b.toNat = 8 := by unfold ustep; simp; omega
      rw [uscF_dead b r i 1 c hs]; simp only; rw [if_neg h]

/-- Behind a byte that leaves one more (in state st, between lo and hi). -/
theorem uscF_st (st t lo hi : Int) (hst : ∀ b : Int, ustep st b = if lo ≤ b ∧ b ≤ hi then t else 8) (h0 : t ≠ 0) (h8 : t ≠ 8) (hlo : 128 ≤ lo) (hhi : hi ≤ 191) (r : List UInt8) (i : Nat) (c : Int) (hi0 : 0 < i) :
    uscF r i st c = match r with | b :: r' => if lo ≤ (b.toNat : Int) ∧ (b.toNat : Int) ≤ hi then uscF r' (i + 1) t (c * 64 + ((b.toNat : Int) - 128)) else (0, 0) | [] => (0, 0) := by
  cases r with
  | nil => rfl
  | cons b r =>
    have hb := hst b.toNat
    by_cases h : lo ≤ (b.toNat : Int) ∧ (b.toNat : Int) ≤ hi
    · rw [if_pos h] at hb
      rw [uscF_go b r i st c t hb h0 h8]; simp only; rw [if_pos h, uadd, if_pos hi0, show (b.toNat : Int) % 64 = (b.toNat : Int) - 128 by omega]
    · rw [if_neg h] at hb
      rw [uscF_dead b r i st c hb]; simp only; rw [if_neg h]
theorem us2 (b : Int) : ustep 2 b = if 128 ≤ b ∧ b ≤ 191 then 1 else 8 := by unfold ustep; simp
theorem us3 (b : Int) : ustep 3 b = if 128 ≤ b ∧ b ≤ 191 then 2 else 8 := by unfold ustep; simp
theorem us4 (b : Int) : ustep 4 b = if 160 ≤ b ∧ b ≤ 191 then 1 else 8 := by unfold ustep; simp
theorem us5 (b : Int) : ustep 5 b = if 128 ≤ b ∧ b ≤ 159 then 1 else 8 := by unfold ustep; simp
theorem us6 (b : Int) : ustep 6 b = if 144 ≤ b ∧ b ≤ 191 then 2 else 8 := by unfold ustep; simp
theorem us7 (b : Int) : ustep 7 b = if 128 ≤ b ∧ b ≤ 143 then 2 else 8 := by unfold ustep; simp
/-- Two bytes more. -/
theorem uscF_two (st lo hi : Int) (hst : ∀ b : Int, ustep st b = if lo ≤ b ∧ b ≤ hi then 1 else 8) (hlo : 128 ≤ lo) (hhi : hi ≤ 191) (r : List UInt8) (i : Nat) (c : Int) (hi0 : 0 < i) :
    uscF r i st c = match r with | b1 :: b2 :: _ => if lo ≤ (b1.toNat : Int) ∧ (b1.toNat : Int) ≤ hi ∧ 128 ≤ (b2.toNat : Int) ∧ (b2.toNat : Int) ≤ 191 then ((c * 64 + ((b1.toNat : Int) - 128)) * 64 + ((b2.toNat : Int) - 128), (i : Int) + 2) else (0, 0) | _ => (0, 0) := by
  rw [uscF_st st 1 lo hi hst (by omega) (by omega) hlo hhi r i c hi0]
  match r with
  | [] => rfl
  | [b1] =>
    simp only
    split
    · rw [uscF_one _ _ _ (by omega)]
    · rfl
  | b1 :: b2 :: r' =>
    simp only
    by_cases h : lo ≤ (b1.toNat : Int) ∧ (b1.toNat : Int) ≤ hi
    · rw [if_pos h, uscF_one _ _ _ (by omega)]
      simp only
      by_cases h2 : 128 ≤ (b2.toNat : Int) ∧ (b2.toNat : Int) ≤ 191
      · rw [if_pos h2, if_pos ⟨h.1, h.2, h2.1, h2.2⟩, show ((i + 1 : Nat) : Int) + 1 = (i : Int) + 2 by omega]
      · rw [if_neg h2, if_neg (fun hc => h2 hc.2.2)]
    · rw [if_neg h, if_neg (fun hc => h ⟨hc.1, hc.2.1⟩)]
theorem uscF_three (st lo hi : Int) (hst : ∀ b : Int, ustep st b = if lo ≤ b ∧ b ≤ hi then 2 else 8) (hlo : 128 ≤ lo) (hhi : hi ≤ 191) (r : List UInt8) (i : Nat) (c : Int) (hi0 : 0 < i) :
    uscF r i st c = match r with | b1 :: b2 :: b3 :: _ => if lo ≤ (b1.toNat : Int) ∧ (b1.toNat : Int) ≤ hi ∧ 128 ≤ (b2.toNat : Int) ∧ (b2.toNat : Int) ≤ 191 ∧ 128 ≤ (b3.toNat : Int) ∧ (b3.toNat : Int) ≤ 191 then (((c * 64 + ((b1.toNat : Int) - 128)) * 64 + ((b2.toNat : Int) - 128)) * 64 + ((b3.toNat : Int) - 128), (i : Int) + 3) else (0, 0) | _ => (0, 0) := by
  rw [uscF_st st 2 lo hi hst (by omega) (by omega) hlo hhi r i c hi0]
  match r with
  | [] => rfl
  | b1 :: r' =>
    by_cases h : lo ≤ (b1.toNat : Int) ∧ (b1.toNat : Int) ≤ hi
    · simp only
      rw [if_pos h, uscF_two 2 128 191 us2 (by omega) (by omega) _ _ _ (by omega)]
      match r' with
      | [] => rfl
      | [b2] => rfl
      | b2 :: b3 :: r'' =>
        simp only
        by_cases h2 : 128 ≤ (b2.toNat : Int) ∧ (b2.toNat : Int) ≤ 191 ∧ 128 ≤ (b3.toNat : Int) ∧ (b3.toNat : Int) ≤ 191
        · rw [if_pos h2, if_pos ⟨h.1, h.2, h2⟩, show ((i + 1 : Nat) : Int) + 2 = (i : Int) + 3 by omega]
        · rw [if_neg h2, if_neg (fun hc => h2 hc.2.2)]
    · simp only
      rw [if_neg h]
      match r' with
      | [] => rfl
      | [b2] => rfl
      | b2 :: b3 :: r'' => simp only; rw [if_neg (fun hc => h ⟨hc.1, hc.2.1⟩)]
/-- The machine is the ranges. -/
theorem usc_scal (l : List UInt8) : uscF l 0 0 0 = scalV l := by
  match l with
  | [] => rfl
  | b0 :: r =>
    have hb := b0.toNat_lt
    unfold scalV
    simp only
    by_cases h1 : (b0.toNat : Int) < 128
    · rw [if_pos h1, uscF_end b0 r 0 0 0 (by unfold ustep ufirst; rw [if_pos rfl, if_pos h1]), uadd, if_neg (by omega), if_pos h1]; rfl
    · rw [if_neg h1]
      by_cases h2 : 194 ≤ (b0.toNat : Int) ∧ (b0.toNat : Int) ≤ 223
      · rw [if_pos h2, uscF_go b0 r 0 0 0 1 (by unfold ustep ufirst; rw [if_pos rfl, if_neg h1, if_pos h2]) (by omega) (by omega), uscF_one _ _ _ (by omega)]
        rw [uadd, if_neg (by omega), if_neg h1, if_neg (by omega), if_neg (by omega), show (b0.toNat : Int) % 32 = (b0.toNat : Int) - 192 by omega]
        cases r <;> rfl
      · rw [if_neg h2]
        by_cases h3 : 224 ≤ (b0.toNat : Int) ∧ (b0.toNat : Int) ≤ 239
        · rw [if_pos h3]
          have ha : uadd 0 0 b0.toNat = (b0.toNat : Int) - 224 := by rw [uadd, if_neg (by omega), if_neg h1, if_neg (by omega), if_pos h3.1]; omega
          have hz : (((0 + 1 : Nat) : Int) + 2) = 3 := rfl
          by_cases h4 : (b0.toNat : Int) = 224
          · rw [uscF_go b0 r 0 0 0 4 (by unfold ustep ufirst; rw [if_pos rfl, if_neg h1, if_neg h2, if_pos h4]) (by omega) (by omega), uscF_two 4 160 191 us4 (by omega) (by omega) _ _ _ (by omega), ha, hz, if_pos h4, if_neg (by omega)]
          · by_cases h5 : (b0.toNat : Int) = 237
            · rw [uscF_go b0 r 0 0 0 5 (by unfold ustep ufirst; rw [if_pos rfl, if_neg h1, if_neg h2, if_neg h4, if_pos h5]) (by omega) (by omega), uscF_two 5 128 159 us5 (by omega) (by omega) _ _ _ (by omega), ha, hz, if_neg h4, if_pos h5]
            · rw [uscF_go b0 r 0 0 0 2 (by unfold ustep ufirst; rw [if_pos rfl, if_neg h1, if_neg h2, if_neg h4, if_neg h5, if_pos (by omega)]) (by omega) (by omega), uscF_two 2 128 191 us2 (by omega) (by omega) _ _ _ (by omega), ha, hz, if_neg h4, if_neg h5]
        · rw [if_neg h3]
          by_cases h6 : 240 ≤ (b0.toNat : Int) ∧ (b0.toNat : Int) ≤ 244
          · rw [if_pos h6]
            have ha : uadd 0 0 b0.toNat = (b0.toNat : Int) - 240 := by rw [uadd, if_neg (by omega), if_neg h1, if_pos h6.1]; omega
            have hz : (((0 + 1 : Nat) : Int) + 3) = 4 := rfl
            by_cases h4 : (b0.toNat : Int) = 240
            · rw [uscF_go b0 r 0 0 0 6 (by unfold ustep ufirst; rw [if_pos rfl, if_neg h1, if_neg h2, if_neg (by omega), if_neg (by omega), if_neg (by omega), if_pos h4]) (by omega) (by omega), uscF_three 6 144 191 us6 (by omega) (by omega) _ _ _ (by omega), ha, hz, if_pos h4, if_neg (by omega)]
            · by_cases h5 : (b0.toNat : Int) = 244
              · rw [uscF_go b0 r 0 0 0 7 (by unfold ustep ufirst; rw [if_pos rfl, if_neg h1, if_neg h2, if_neg (by omega), if_neg (by omega), if_neg (by omega), if_neg h4, if_neg (by omega), if_pos h5]) (by omega) (by omega), uscF_three 7 128 143 us7 (by omega) (by omega) _ _ _ (by omega), ha, hz, if_neg h4, if_pos h5]
              · rw [uscF_go b0 r 0 0 0 3 (by unfold ustep ufirst; rw [if_pos rfl, if_neg h1, if_neg h2, if_neg (by omega), if_neg (by omega), if_neg (by omega), if_neg h4, if_pos (by omega)]) (by omega) (by omega), uscF_three 3 128 191 us3 (by omega) (by omega) _ _ _ (by omega), ha, hz, if_neg h4, if_neg h5]
          · rw [if_neg h6, uscF_dead b0 r 0 0 0 (by unfold ustep ufirst; rw [if_pos rfl, if_neg h1, if_neg h2, if_neg (by omega), if_neg (by omega), if_neg (by omega), if_neg (by omega), if_neg (by omega), if_neg (by omega)])]

end Go.Proofs.YtihfhohdnjbahaaDoor
