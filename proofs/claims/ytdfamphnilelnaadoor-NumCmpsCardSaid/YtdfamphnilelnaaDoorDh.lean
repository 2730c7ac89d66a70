/- The law NumFar: plain, and walked. -/
import Derived.Test.YtdfamphnilelnaaDoorDe
namespace Go.Proofs.YtdfamphnilelnaaDoor
open Go.RowKit

/-- The text that is made. -/
def farL (mi sm : Bool) (k : Nat) : L8 := (if mi then [45, 49, 101] else [49, 101]) ++ ((if sm then [45] else []) ++ List.replicate k 57)
def farW (mi sm : Bool) (n : Int) : Int := if sm = true ∧ n ≠ 0 then (if 0 < n then -1 else 1) else if mi then -1 else 1
theorem nines (k : Nat) : (List.replicate k (57 : UInt8)).all isDig = true := by
  rw [List.all_eq_true]; intro c hc; rw [List.mem_replicate] at hc; rw [hc.2]; rfl
theorem digN_all : ∀ l : L8, l.all isDig = true → digN l = l.length
  | [], _ => rfl
  | c :: r, h => by
    simp only [List.all_cons, Bool.and_eq_true] at h
    rw [digN, if_pos h.1, digN_all r h.2]; rfl
theorem far_split (mi sm : Bool) (k : Nat) (hk : 1 ≤ k) : splitL (farL mi sm k) = some ⟨mi, [49], [], (if sm then [45] else []) ++ List.replicate k 57⟩ := by
  obtain ⟨j, rfl⟩ : ∃ j, k = j + 1 := ⟨k - 1, by omega⟩
  have hd9 := digN_all _ (nines (j + 1))
  have h5 : ∀ m, spl5 m [49] [] ((if sm then [45] else []) ++ List.replicate (j + 1) (57 : UInt8)) = some ⟨m, [49], [], (if sm then [45] else []) ++ List.replicate (j + 1) (57 : UInt8)⟩ := by
    intro m
    have e : (if hd ((if sm then [45] else []) ++ List.replicate (j + 1) (57 : UInt8)) 43 || hd ((if sm then [45] else []) ++ List.replicate (j + 1) (57 : UInt8)) 45 then ((if sm then [45] else []) ++ List.replicate (j + 1) (57 : UInt8)).drop 1 else (if sm then [45] else []) ++ List.replicate (j + 1) (57 : UInt8)) = List.replicate (j + 1) (57 : UInt8) := by
      cases sm <;> rfl
    unfold spl5
    rw [e, if_pos ⟨by simp, hd9⟩]
  have h2 : ∀ m, spl2 m ([49, 101] ++ ((if sm then [45] else []) ++ List.replicate (j + 1) (57 : UInt8))) = some ⟨m, [49], [], (if sm then [45] else []) ++ List.replicate (j + 1) (57 : UInt8)⟩ := fun m => h5 m
  unfold farL
  cases mi
  · exact h2 false
  · exact h2 true
theorem fold_up : ∀ (l : L8) (n : Int), l.all isDig = true → 0 ≤ n → n ≤ far → n ≤ foldE far n l
  | [], n, _, _, _ => Int.le_refl _
  | c :: r, n, h, h0, h1 => by
    simp only [List.all_cons, Bool.and_eq_true] at h
    have hb := dig_bd h.1
    rw [foldE]
    have hfar : far = 1099511627776 := rfl
    split
    · exact Int.le_trans h1 (fold_up r _ h.2 (by omega) (by omega))
    · exact Int.le_trans (by omega) (fold_up r _ h.2 (by omega) (by omega))
theorem far_read (mi sm : Bool) (k : Nat) (hk : 3 ≤ k) : ∃ F : Int, 999 ≤ F ∧ readV ⟨mi, [49], [], (if sm then [45] else []) ++ List.replicate k 57⟩ = ⟨mi, [49], if sm then 1 - F else 1 + F⟩ := by
  obtain ⟨j, rfl⟩ : ∃ j, k = j + 3 := ⟨k - 3, by omega⟩
  refine ⟨foldE far 0 (List.replicate (j + 3) 57), ?_, ?_⟩
  · have e : foldE far 0 (List.replicate (j + 3) (57 : UInt8)) = foldE far 999 (List.replicate j 57) := rfl
    rw [e]
    exact fold_up _ _ (nines j) (by omega) (by unfold far; omega)
  · unfold readV
    have ep : powI ((if sm then [45] else []) ++ List.replicate (j + 3) 57) = if sm then -(foldE far 0 (List.replicate (j + 3) 57)) else foldE far 0 (List.replicate (j + 3) 57) := by
      cases sm <;> rfl
    have key : ∀ P : Int, trimV ⟨mi, [49], P⟩ = ⟨mi, [49], P⟩ := fun P => by
      have : trimV ⟨mi, [49], P⟩ = ⟨mi, [49], P - ((1 : Int) - 1)⟩ := rfl
      rw [this]; congr 1; omega
    simp only [ep]
    refine (key _).trans ?_
    congr 1
    cases sm <;> simp <;> omega
theorem far_plain (mi sm : Bool) (k : Nat) (hk : 3 ≤ k) (n : Int) (n0 : -9223372036854775808 ≤ n) (n1 : n ≤ 9223372036854775807) :
    (splitL (farL mi sm k)).isSome = true ∧ wholeL (farL mi sm k) = (0, false) ∧ cmpL (farL mi sm k) n = farW mi sm n := by
  have hs := far_split mi sm k (by omega)
  obtain ⟨F, hF, hr⟩ := far_read mi sm k hk
  unfold wholeL cmpL
  simp only [hs, hr]
  refine ⟨rfl, ?_, ?_⟩
  · unfold wholeV
    rw [if_neg (by simp)]
    cases sm
    · rw [if_pos (by left; show 16 < 1 + F; omega)]
    · rw [if_pos (by right; show 1 - F < _; simp; omega)]
  · rw [cmpVV_sgn, side_w]
    have hn := sgn_c n
    have hsd : sideV ⟨mi, [49], if sm then 1 - F else 1 + F⟩ = if mi then -1 else 1 := rfl
    rw [hsd]
    have hN := NFl_20 [49]
    unfold farW
    by_cases h0 : n = 0
    · subst h0
      rw [show sgn 0 = 0 from rfl]
      cases mi <;> cases sm <;> simp
    · have hk1 := key_abs n h0
      have hl := natD_len20 n n0 n1
      have hl1 : 1 ≤ (natD n).length := by
        obtain ⟨c, r, e, _⟩ := dd_head n.natAbs (by omega)
        unfold natD; rw [e]; simp
      have hN2 := NFl_20 (tB (natD n))
      have hkv : keyV ⟨mi, [49], if sm then 1 - F else 1 + F⟩ = (if sm then 1 - F else 1 + F) * 1461501637330902918203684832716283019655932542976 + NFl [49] 20 := rfl
      have hsg : sgn (keyV ⟨mi, [49], if sm then 1 - F else 1 + F⟩ - keyV (wnV n)) = if sm then -1 else 1 := by
        rw [hkv, hk1]
        unfold sgn
        cases sm
        · simp only [Bool.false_eq_true, if_false]
          rw [if_neg (by omega), if_pos (by omega)]
        · simp only [if_true]
          rw [if_pos (by omega)]
      rw [hsg]
      rcases hn with ⟨e, h⟩ | ⟨e, h⟩ | ⟨e, h⟩
      · rw [e]; cases mi <;> cases sm <;> simp [h0] <;> omega
      · exact absurd h h0
      · rw [e]; cases mi <;> cases sm <;> simp [h0] <;> omega

end Go.Proofs.YtdfamphnilelnaaDoor
