/- QtreeDeep's law, plain: what nests is read to the 32nd level (no word of a dump). -/
import Derived.Test.YtmopeandckmgcaaDoorQ1
namespace Go.Proofs.YtmopeandckmgcaaDoor
def deepP (h : Nat) : List UInt8 := if h = 0 then [40] else if h = 1 then [33, 40] else [64, 91, 63]
def deepQ (h : Nat) : List UInt8 := if h = 2 then [93] else [41]
/-- What stands ahead, and behind. -/
def deepS (h : Nat) : Nat → List UInt8
  | 0 => [36, 91, 63]
  | m + 1 => deepS h m ++ deepP h
def deepT (h : Nat) : Nat → List UInt8
  | 0 => [93]
  | m + 1 => deepQ h ++ deepT h m
/-- How many rounds there are, and levels. -/
def deepM (h k : Nat) : Nat := if h = 1 then k / 2 else k - 1
def deepK (h k : Nat) : Nat := if h = 1 then 1 + k / 2 * 2 else k
def deepOK (h k : Nat) : Bool := match parseT true (deepS h (deepM h k) ++ [64] ++ deepT h (deepM h k)) with
  | .ok p => decide (deepK h k ≤ 32) && decide (p.segs.length = 1)
  | .error (e, a) => decide (32 < deepK h k) && decide (e = 5) && decide (0 < a) && decide (a < ((deepS h (deepM h k)).length : Int))
set_option maxRecDepth 100000 in
theorem deep_0 : (List.range 41).all (fun k => k == 0 || deepOK 0 k) = true := by decide +kernel
set_option maxRecDepth 100000 in
theorem deep_1 : (List.range 41).all (fun k => k == 0 || deepOK 1 k) = true := by decide +kernel
set_option maxRecDepth 100000 in
theorem deep_2 : (List.range 41).all (fun k => k == 0 || deepOK 2 k) = true := by decide +kernel
theorem deep_all (h k : Nat) (hh : h < 3) (hk : 0 < k) (hk2 : k ≤ 40) : deepOK h k = true := by
  have key : ∀ h', (List.range 41).all (fun k => k == 0 || deepOK h' k) = true → deepOK h' k = true := fun h' ha => by
    rw [List.all_eq_true] at ha
    have := ha k (by simp; omega)
    rw [Bool.or_eq_true, beq_iff_eq] at this
    exact this.resolve_left (by omega)
  match h, hh with
  | 0, _ => exact key 0 deep_0
  | 1, _ => exact key 1 deep_1
  | 2, _ => exact key 2 deep_2
theorem deepS_len (h m : Nat) : (deepS h m).length ≤ 3 + 3 * m := by
  induction m with
  | zero => exact Nat.le_refl _
  | succ m ih =>
    have hp : (deepP h).length ≤ 3 := by unfold deepP; (repeat' split) <;> simp
    rw [deepS, List.length_append]
    omega
theorem deepT_len (h m : Nat) : (deepT h m).length = m + 1 := by
  induction m with
  | zero => rfl
  | succ m ih =>
    have hq : (deepQ h).length = 1 := by unfold deepQ; split <;> rfl
    rw [deepT, List.length_append, ih, hq]
    omega

end Go.Proofs.YtmopeandckmgcaaDoor
