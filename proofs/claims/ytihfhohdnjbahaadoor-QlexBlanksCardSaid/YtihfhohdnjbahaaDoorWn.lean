/- qlex: signs, one. -/
import Derived.Test.YtihfhohdnjbahaaDoorFl
import Derived.Test.YtihfhohdnjbahaaDoorWm
namespace Go.Proofs.YtihfhohdnjbahaaDoor
open Go.RowKit

def sgC : List Value := signsL.map fun l => .string (bs l)
def sgA : Array Value := sgC.toArray
set_option maxRecDepth 100000 in
set_option maxHeartbeats 1000000 in
theorem signs_any (w : World) :
    Calls Tryd.prog 23 #[] w fun e w' => e = .returned (.slice (some ⟨w.heap.size, 0, none⟩) 21 21) ∧ w' = w.alloc (.cells sgA 9) := by
  go_enter Tryd.func23, Tryd.ntmps23
  go_wp2
  go_ret
  exact ⟨rfl, rfl⟩
theorem sg_len : signsL.length = 21 := rfl
theorem sgA_get (i : Nat) (h : i < 21) : sgA[i]? = some (.string (bs (signsL[i]'(by rw [sg_len]; exact h)))) := by
  unfold sgA sgC
  rw [List.getElem?_toArray, List.getElem?_map, List.getElem?_eq_getElem (by rw [sg_len]; exact h)]; rfl
theorem find_from (l : List UInt8) (i : Nat) (h : i < 21) (hp : preB l (signsL[i]'(by rw [sg_len]; exact h)) = true) (hn : ∀ j (hj : j < 21), j < i → preB l (signsL[j]'(by rw [sg_len]; exact hj)) = false) :
    signsL.find? (fun x => l.take x.length == x) = some (signsL[i]'(by rw [sg_len]; exact h)) := by
  rw [List.find?_eq_some_iff_getElem]
  exact ⟨hp, i, by rw [sg_len]; exact h, rfl, fun j hj => by have := hn j (by omega) hj; unfold preB at this; simp only [Bool.not_eq_true']; exact this⟩
theorem find_no (l : List UInt8) (hn : ∀ j (hj : j < 21), preB l (signsL[j]'(by rw [sg_len]; exact hj)) = false) :
    signsL.find? (fun x => l.take x.length == x) = none := by
  rw [List.find?_eq_none]
  intro x hx
  obtain ⟨j, hj, rfl⟩ := List.getElem_of_mem hx
  have := hn j (by rw [sg_len] at hj; exact hj)
  unfold preB at this; simp [this]
/-- What is returned of a token. -/
def tokVV (k : Int) (s : ByteArray) (n : Int) : Value := .agg #[.int .i64 k, .string s, .int .i64 n, .int .i64 0, .bool false]
def OneE (l : List UInt8) (e : Ending) : Prop :=
  match tokT l with
  | .error x => ∃ (k : Int) (s : ByteArray) (n m : Int), e = .returned (.tuple #[tokVV k s n, .int .i64 m, .int .i64 x])
  | .ok (k, t, v, n) => e = .returned (.tuple #[tokVV k (bs t) v, .int .i64 (n : Nat), .int .i64 0])
theorem OneE.no {l : List UInt8} {x : Int} (h : tokT l = .error x) (k : Int) (s : ByteArray) (n m : Int) : OneE l (.returned (.tuple #[tokVV k s n, .int .i64 m, .int .i64 x])) := by
  unfold OneE; rw [h]; exact ⟨k, s, n, m, rfl⟩
theorem OneE.yes {l : List UInt8} {k v : Int} {t : List UInt8} {n : Nat} (h : tokT l = .ok (k, t, v, n)) {s : ByteArray} {m : Int} (h1 : s = bs t) (h2 : m = n) : OneE l (.returned (.tuple #[tokVV k s v, .int .i64 m, .int .i64 0])) := by
  unfold OneE; rw [h, h1, h2]
theorem list_0 (s : ByteArray) (h : 0 < s.size) : s.data.toList = s[0] :: dr s 1 := by
  have := drop_cons s 0 h
  rw [List.drop_zero] at this; exact this
theorem tokT_str (s : ByteArray) (h : 0 < s.size) (hc : s[0] = 34 ∨ s[0] = 39) : tokT s.data.toList = match txtF s.size s[0] (dr s 1) with | some (t, n) => .ok (4, t, 0, n + 1) | none => .error 3 := by
  rw [list_0 s h]; unfold tokT; simp only; rw [if_pos hc, show (dr s 1).length + 1 = s.size by unfold dr; rw [List.length_drop, len_toList]; omega]; rfl
theorem tokT_num (s : ByteArray) (h : 0 < s.size) (hc : ¬ (s[0] = 34 ∨ s[0] = 39)) (hd : isDig s[0] = true ∨ s[0] = 45) : tokT s.data.toList = match numT s.data.toList with | .ok (v, n) => .ok (3, [], v, n) | .error e => .error e := by
  rw [list_0 s h]; unfold tokT; simp only; rw [if_neg hc, if_pos hd]; rfl
theorem tokT_nam (s : ByteArray) (h : 0 < s.size) (hc : ¬ (s[0] = 34 ∨ s[0] = 39)) (hd : ¬ (isDig s[0] = true ∨ s[0] = 45)) (hn : 0 < nameL s.data.toList) : tokT s.data.toList = .ok (2, s.data.toList.take (nameL s.data.toList), 0, nameL s.data.toList) := by
  rw [list_0 s h] at hn ⊢; unfold tokT; simp only; rw [if_neg hc, if_neg hd, if_pos hn]
theorem tokT_sgn (s : ByteArray) (h : 0 < s.size) (hc : ¬ (s[0] = 34 ∨ s[0] = 39)) (hd : ¬ (isDig s[0] = true ∨ s[0] = 45)) (hn : nameL s.data.toList = 0) : tokT s.data.toList = match signsL.find? (fun x => s.data.toList.take x.length == x) with | some x => .ok (1, x, 0, x.length) | none => .error 3 := by
  rw [list_0 s h] at hn ⊢; unfold tokT; simp only; rw [if_neg hc, if_neg hd, if_neg (by omega)]; rfl

end Go.Proofs.YtihfhohdnjbahaaDoor
