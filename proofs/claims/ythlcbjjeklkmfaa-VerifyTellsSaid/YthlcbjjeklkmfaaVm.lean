/- ref20: Few. -/
import Derived.Test.YthlcbjjeklkmfaaVl
namespace Go.Proofs.Ythlcbjjeklkmfaa
open Go.RowKit

def FewP (cd : CodeD) (w : World) (e : Ending) (w' : World) : Prop :=
  ∃ b, e = .returned (.bool b) ∧ (b = true → cd.ps.length ≤ 12 ∧ cd.gs.length ≤ 12 ∧ cd.ss.length ≤ 20 ∧ cd.is.length ≤ 40) ∧ Bel w.heap.size w w'

/-- The code's box. -/
def FSt (w wr : World) (cv : Array Value) (A1 A2 A3 A4 : Option Addr) (cd : CodeD) : Prop := Blk wr w.heap.size 27 cv ∧ CM wr A1 A2 A3 A4 cd ∧ Bel w.heap.size w wr

set_option maxRecDepth 100000 in
set_option maxHeartbeats 2000000 in
theorem few_any (A1 A2 A3 A4 : Option Addr) (c1 c2 c3 c4 : Nat) (cd : CodeD) (w : World) (h : CM w A1 A2 A3 A4 cd) (l1 : cd.ps.length ≤ maxLen) (l2 : cd.gs.length ≤ maxLen) (l3 : cd.ss.length ≤ maxLen) (l4 : cd.is.length ≤ maxLen) :
    Calls Try.prog 6 #[.agg #[.slice A1 cd.ps.length c1, .slice A2 cd.gs.length c2, .slice A3 cd.ss.length c3, .slice A4 cd.is.length c4]] w (FewP cd w) := by
  have hT : ∀ w' b, Bel w.heap.size w w' → (b = true → cd.ps.length ≤ 12 ∧ cd.gs.length ≤ 12 ∧ cd.ss.length ≤ 20 ∧ cd.is.length ≤ 40) → FewP cd w (.returned (.bool b)) w' := fun w' b hb h => ⟨b, rfl, h, hb⟩
  generalize hPp : FewP cd w = PP at hT ⊢
  have HT := Lib.hid hT; clear hT hPp
  have HB := Lib.hid (show Bel w.heap.size w (w.alloc (.cells #[.slice A1 cd.ps.length c1, .slice A2 cd.gs.length c2, .slice A3 cd.ss.length c3, .slice A4 cd.is.length c4] 27)) from (Bel.refl _ _).alloc (Nat.le_refl _) _)
  have HC := Lib.hid h
  unfold maxLen at l1 l2 l3 l4
  clear h
  go_enter Try.func6, Try.ntmps6
  go_wp2
  go_loop [3, 4] (fun x i => ∃ (k : Nat) (y : Int), k ≤ 30 ∧ 0 ≤ y ∧ y ≤ 1000 * (k : Int) ∧ x = .int .i64 y ∧ i = .int .i64 k) (fun _ i => 30 - (intOf i).toNat)
  case atStart => exact ⟨0, 0, by omega, by omega, by omega, rfl, rfl⟩
  case round =>
    obtain ⟨k, y, hk, hy0, hy1, rfl, rfl⟩ := hrel
    by_cases hlt : k < cd.ss.length
    · by_cases hk3 : k < 30
      · obtain ⟨z, hz⟩ : ∃ z, cd.ss[k]? = some z := ⟨_, List.getElem?_eq_getElem hlt⟩
        obtain ⟨b3, o3, e3, hb3, hc3⟩ := HC.out.s.resolve_left (by intro e; rw [e] at hlt; simp at hlt)
        subst e3
        obtain ⟨_, g1, _⟩ := hc3 k z hz
        obtain ⟨nm, hnm⟩ : ∃ nm, z.nm = nm := ⟨_, rfl⟩
        rw [hnm] at g1
        have hkl : (k : Int) < cd.ss.length := by omega
        clear hc3 hz hnm
        go_wp2
        refine ⟨⟨k + 1, _, by omega, ?_, ?_, rfl, by go_num⟩, by simp [intOf]; omega⟩
        · split <;> omega
        · split <;> omega
      · obtain rfl : k = 30 := by omega
        clear hk3
        go_wp2
        go_loop [3, 5] (fun x i => ∃ (k : Nat) (y : Int), k ≤ 50 ∧ 0 ≤ y ∧ y ≤ 30000 + 1000 * (k : Int) ∧ x = .int .i64 y ∧ i = .int .i64 k) (fun _ i => 50 - (intOf i).toNat)
        case atStart => exact ⟨0, y, by omega, by omega, by omega, rfl, rfl⟩
        case round =>
          clear hy0 hy1
          obtain ⟨m, v, hm, hv0, hv1, rfl, rfl⟩ := hrel
          by_cases hlm : m < cd.is.length
          · by_cases hm3 : m < 50
            · obtain ⟨z, hz⟩ : ∃ z, cd.is[m]? = some z := ⟨_, List.getElem?_eq_getElem hlm⟩
              obtain ⟨b4, o4, e4, hb4, hc4⟩ := HC.out.i.resolve_left (by intro e; rw [e] at hlm; simp at hlm)
              subst e4
              obtain ⟨_, _, _, _, _, g5, _⟩ := hc4 m z hz
              obtain ⟨nm, hnm⟩ : ∃ nm, z.s = nm := ⟨_, rfl⟩
              rw [hnm] at g5
              have hml : (m : Int) < cd.is.length := by omega
              clear hc4 hz hnm
              go_wp2
              refine ⟨⟨m + 1, _, by omega, ?_, ?_, rfl, by go_num⟩, by simp [intOf]; omega⟩
              · split <;> omega
              · split <;> omega
            · obtain rfl : m = 50 := by omega
              go_wp2
              all_goals exact HT.out _ _ HB.out (by first | (intro h; simp only [decide_eq_true_eq] at h; omega) | (intro h; exact absurd h (by decide)))
          · have hml : ¬ (m : Int) < cd.is.length := by omega
            go_wp2
            all_goals exact HT.out _ _ HB.out (by first | (intro h; simp only [decide_eq_true_eq] at h; omega) | (intro h; exact absurd h (by decide)))
    · have hkl : ¬ (k : Int) < cd.ss.length := by omega
      go_wp2
      go_loop [3, 5] (fun x i => ∃ (k : Nat) (y : Int), k ≤ 50 ∧ 0 ≤ y ∧ y ≤ 30000 + 1000 * (k : Int) ∧ x = .int .i64 y ∧ i = .int .i64 k) (fun _ i => 50 - (intOf i).toNat)
      case atStart => exact ⟨0, y, by omega, by omega, by omega, rfl, rfl⟩
      case round =>
        clear hy0 hy1
        obtain ⟨m, v, hm, hv0, hv1, rfl, rfl⟩ := hrel
        by_cases hlm : m < cd.is.length
        · by_cases hm3 : m < 50
          · obtain ⟨z, hz⟩ : ∃ z, cd.is[m]? = some z := ⟨_, List.getElem?_eq_getElem hlm⟩
            obtain ⟨b4, o4, e4, hb4, hc4⟩ := HC.out.i.resolve_left (by intro e; rw [e] at hlm; simp at hlm)
            subst e4
            obtain ⟨_, _, _, _, _, g5, _⟩ := hc4 m z hz
            obtain ⟨nm, hnm⟩ : ∃ nm, z.s = nm := ⟨_, rfl⟩
            rw [hnm] at g5
            have hml : (m : Int) < cd.is.length := by omega
            clear hc4 hz hnm
            go_wp2
            refine ⟨⟨m + 1, _, by omega, ?_, ?_, rfl, by go_num⟩, by simp [intOf]; omega⟩
            · split <;> omega
            · split <;> omega
          · obtain rfl : m = 50 := by omega
            go_wp2
            all_goals exact HT.out _ _ HB.out (by first | (intro h; simp only [decide_eq_true_eq] at h; omega) | (intro h; exact absurd h (by decide)))
        · have hml : ¬ (m : Int) < cd.is.length := by omega
          go_wp2
          all_goals exact HT.out _ _ HB.out (by first | (intro h; simp only [decide_eq_true_eq] at h; omega) | (intro h; exact absurd h (by decide)))

end Go.Proofs.Ythlcbjjeklkmfaa
