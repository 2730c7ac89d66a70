/- verify: path. -/
import Derived.Test.YthlcbjjeklkmfaaVc
namespace Go.Proofs.Ythlcbjjeklkmfaa
open Go.RowKit

/-- What path does: it comes back with the path, or throws. -/
def PathP (cd : CodeD) (p : Int) (w : World) (e : Ending) (w' : World) : Prop :=
  Bel w.heap.size w w' ∧ match thereOK cd p, getP cd p with
    | true, some x => e = .returned (.agg #[.bool x.abs, .int .i64 x.fr, .int .i64 x.tt])
    | _, _ => e = .panicked FAULT

set_option maxRecDepth 100000 in
set_option maxHeartbeats 1000000 in
theorem path_out (A1 A2 A3 A4 : Option Addr) (c1 c2 c3 c4 : Nat) (cd : CodeD) (p : Int) (w : World) (hp : p < 0 ∨ (cd.ps.length : Int) ≤ p) :
    Calls Try.prog 13 #[.agg #[.slice A1 cd.ps.length c1, .slice A2 cd.gs.length c2, .slice A3 cd.ss.length c3, .slice A4 cd.is.length c4], .int .i64 p] w (PathP cd p w) := by
  have hf := need_f
  have hg : getP cd p = none := by
    unfold getP
    by_cases h : p < 0
    · rw [if_pos h]
    · rw [if_neg h, List.getElem?_eq_none (by omega)]
  have hP : ∀ w', Bel w.heap.size w w' → PathP cd p w (.panicked FAULT) w' := fun w' hb => ⟨hb, by unfold thereOK; rw [hg]⟩
  by_cases h0 : p < 0
  · go_enter Try.func13, Try.ntmps13
    go_wp2_with (go_at_call 12; refine (hf _).mono ?_; rintro e w' ⟨rfl, rfl⟩)
    exact ⟨rfl, hP _ (Bel.of (by (repeat' (first | (with_reducible exact Below.refl _ _) | (with_reducible refine Below.trans ?_ (below_drewN _ _ _)) | (with_reducible refine Below.alloc ?_ ?_ _) | (with_reducible refine Below.setCell ?_ ?_ _) | (with_reducible refine Below.drew ?_) | go_size))))⟩
  · have h1 : (cd.ps.length : Int) ≤ p := by omega
    have hd : decide (p < (cd.ps.length : Int)) = false := decide_eq_false (by omega)
    go_enter Try.func13, Try.ntmps13
    go_wp2_with (go_at_call 12; refine (hf _).mono ?_; rintro e w' ⟨rfl, rfl⟩)
    exact ⟨rfl, hP _ (Bel.of (by (repeat' (first | (with_reducible exact Below.refl _ _) | (with_reducible refine Below.trans ?_ (below_drewN _ _ _)) | (with_reducible refine Below.alloc ?_ ?_ _) | (with_reducible refine Below.setCell ?_ ?_ _) | (with_reducible refine Below.drew ?_) | go_size))))⟩

set_option maxRecDepth 100000 in
set_option maxHeartbeats 1000000 in
theorem path_bad (A1 A2 A3 A4 : Option Addr) (c1 c2 c3 c4 : Nat) (cd : CodeD) (j : Nat) (x : PathD) (w : World) (h : CM w A1 A2 A3 A4 cd) (hx : cd.ps[j]? = some x) (_l1 : cd.ps.length ≤ 1000000000) (_l2 : cd.gs.length ≤ 1000000000) (hin : inR x.fr x.tt cd.gs.length = false) :
    Calls Try.prog 13 #[.agg #[.slice A1 cd.ps.length c1, .slice A2 cd.gs.length c2, .slice A3 cd.ss.length c3, .slice A4 cd.is.length c4], .int .i64 (j : Int)] w (PathP cd (j : Int) w) := by
  have ht := need_t
  have hg : getP cd (j : Int) = some x := by unfold getP; rw [if_neg (by omega), Int.toNat_natCast]; exact hx
  have hP : ∀ w', Bel w.heap.size w w' → PathP cd (j : Int) w (.panicked FAULT) w' := fun w' hb => ⟨hb, by unfold thereOK; rw [hg]; unfold pathOK; simp only [hin, Bool.false_and]⟩
  have hwi := fun w => within_any x.fr x.tt cd.gs.length w
  unfold NP' at hwi
  simp only [hin, Bool.false_eq_true, if_false] at hwi
  have hj : j < cd.ps.length := (List.getElem?_eq_some_iff.1 hx).1
  obtain ⟨b1, o1, e1, hb1, hc1⟩ := h.p.resolve_left (by intro e; rw [e] at hj; simp at hj)
  subst e1
  obtain ⟨q0, q1, q2⟩ := hc1 j x hx
  obtain ⟨pa, fr, tt⟩ := x
  simp only at q0 q1 q2 hwi
  clear hc1 hx h hg hin
  have hjl : (j : Int) < cd.ps.length := by omega
  go_enter Try.func13, Try.ntmps13
  go_wp2_with (first
    | (go_at_call 12; refine (ht _).mono ?_; rintro e w' ⟨rfl, rfl⟩)
    | (go_at_call 14; refine (hwi _).mono ?_; rintro e w' ⟨rfl, rfl⟩))
  exact ⟨rfl, hP _ (Bel.of (by (repeat' (first | (with_reducible exact Below.refl _ _) | (with_reducible refine Below.trans ?_ (below_drewN _ _ _)) | (with_reducible refine Below.alloc ?_ ?_ _) | (with_reducible refine Below.setCell ?_ ?_ _) | (with_reducible refine Below.drew ?_) | go_size))))⟩

end Go.Proofs.Ythlcbjjeklkmfaa
