/- verify: need, within; ref20: seg. -/
import Derived.Test.YthlcbjjeklkmfaaVp
namespace Go.Proofs.Ythlcbjjeklkmfaa
open Go.RowKit

/-- What is thrown. -/
def FAULT : List PanicEntry := [{ v := .iface 49 (.agg #[]), recovered := false }]
/-- A helper's end: it comes back, or throws. -/
def NP' (b : Bool) (e : Ending) : Prop := if b then e = .returned (.tuple #[]) else e = .panicked FAULT

theorem np_t {e : Ending} (h : NP' true e) : e = .returned (.tuple #[]) := h
theorem np_f {e : Ending} (h : NP' false e) : e = .panicked FAULT := h
set_option maxRecDepth 100000 in
set_option maxHeartbeats 400000 in
theorem need_t (w : World) : Calls Try.prog 12 #[.bool true] w fun e w' => e = .returned (.tuple #[]) ∧ w = w' := by
  go_enter Try.func12, Try.ntmps12
  go_wp2
  go_end0
  exact ⟨rfl, rfl⟩
set_option maxRecDepth 100000 in
set_option maxHeartbeats 400000 in
theorem need_f (w : World) : Calls Try.prog 12 #[.bool false] w fun e w' => e = .panicked FAULT ∧ w = w' := by
  go_enter Try.func12, Try.ntmps12
  go_wp2
  exact ⟨rfl, rfl, rfl⟩

set_option maxRecDepth 100000 in
set_option maxHeartbeats 400000 in
theorem within_any (a b : Int) (n : Nat) (w : World) : Calls Try.prog 14 #[.int .i64 a, .int .i64 b, .int .i64 (n : Int)] w fun e w' => NP' (inR a b n) e ∧ w = w' := by
  have ht := need_t; have hf := need_f
  unfold NP' inR
  by_cases h1 : 0 ≤ a
  · by_cases h2 : a ≤ b
    · by_cases h3 : b ≤ (n : Int)
      · simp only [h1, h2, h3, decide_true, Bool.true_and, if_true]
        go_enter Try.func14, Try.ntmps14
        go_wp2_with (go_at_call 12; refine (ht _).mono ?_; rintro e w' ⟨rfl, rfl⟩)
        go_end0
        exact ⟨rfl, rfl⟩
      · simp only [h1, h2, h3, decide_true, decide_false, Bool.and_false, Bool.false_eq_true, if_false]
        go_enter Try.func14, Try.ntmps14
        go_wp2_with (go_at_call 12; refine (hf _).mono ?_; rintro e w' ⟨rfl, rfl⟩)
        exact ⟨rfl, rfl, rfl⟩
    · simp only [h1, h2, decide_true, decide_false, Bool.and_false, Bool.false_and, Bool.false_eq_true, if_false]
      go_enter Try.func14, Try.ntmps14
      go_wp2_with (go_at_call 12; refine (hf _).mono ?_; rintro e w' ⟨rfl, rfl⟩)
      exact ⟨rfl, rfl, rfl⟩
  · simp only [h1, decide_false, Bool.false_and, Bool.false_eq_true, if_false]
    go_enter Try.func14, Try.ntmps14
    go_wp2_with (go_at_call 12; refine (hf _).mono ?_; rintro e w' ⟨rfl, rfl⟩)
    exact ⟨rfl, rfl, rfl⟩

set_option maxRecDepth 100000 in
set_option maxHeartbeats 400000 in
theorem seg_any (A1 A2 A3 A4 : Option Addr) (n1 n2 n3 n4 c1 c2 c3 c4 : Nat) (s : SegD) (w : World) :
    Calls Try.prog 17 #[.agg #[.slice A1 n1 c1, .slice A2 n2 c2, .slice A3 n3 c3, .slice A4 n4 c4], .agg #[.bool s.deep, .int .i64 s.fr, .int .i64 s.tt]] w
      fun e w' => e = .returned (.bool (inR s.fr s.tt n3 && decide (s.fr < s.tt))) ∧ Bel w.heap.size w w' := by
  obtain ⟨d, a, b⟩ := s
  simp only
  obtain ⟨r, hr⟩ : ∃ r, (inR a b n3 && decide (a < b)) = r := ⟨_, rfl⟩
  have HR := Lib.hid hr; clear hr
  rw [HR.out]
  go_enter Try.func17, Try.ntmps17
  go_wp2
  all_goals
    go_ret
    exact ⟨ret_bool (by rw [← HR.out]; unfold inR; by_cases h1 : 0 ≤ a <;> by_cases h2 : a ≤ b <;> by_cases h3 : b ≤ (n3 : Int) <;> by_cases h4 : a < b <;> simp_all <;> omega), Bel.of (by (repeat' (first | (with_reducible exact Below.refl _ _) | (with_reducible refine Below.trans ?_ (below_drewN _ _ _)) | (with_reducible refine Below.alloc ?_ ?_ _) | (with_reducible refine Below.setCell ?_ ?_ _) | (with_reducible refine Below.drew ?_) | go_size)))⟩

/-- The code's slices in memory. -/
structure CM (w : World) (A1 A2 A3 A4 : Option Addr) (c : CodeD) : Prop where
  p : c.ps = [] ∨ ∃ b off, A1 = some ⟨b, off, none⟩ ∧ b < w.heap.size ∧ ∀ (i : Nat) (x : PathD), c.ps[i]? = some x → w.cell? ⟨b, off + i * 3, none⟩ = some (.bool x.abs) ∧ w.cell? ⟨b, off + i * 3 + 1, none⟩ = some (.int .i64 x.fr) ∧ w.cell? ⟨b, off + i * 3 + 2, none⟩ = some (.int .i64 x.tt)
  g : c.gs = [] ∨ ∃ b off, A2 = some ⟨b, off, none⟩ ∧ b < w.heap.size ∧ ∀ (i : Nat) (x : SegD), c.gs[i]? = some x → w.cell? ⟨b, off + i * 3, none⟩ = some (.bool x.deep) ∧ w.cell? ⟨b, off + i * 3 + 1, none⟩ = some (.int .i64 x.fr) ∧ w.cell? ⟨b, off + i * 3 + 2, none⟩ = some (.int .i64 x.tt)
  s : c.ss = [] ∨ ∃ b off, A3 = some ⟨b, off, none⟩ ∧ b < w.heap.size ∧ ∀ (i : Nat) (x : SelD), c.ss[i]? = some x → w.cell? ⟨b, off + i * 8, none⟩ = some (.int .i64 x.kind) ∧ w.cell? ⟨b, off + i * 8 + 1, none⟩ = some (.string x.nm) ∧ w.cell? ⟨b, off + i * 8 + 2, none⟩ = some (.int .i64 x.a) ∧ w.cell? ⟨b, off + i * 8 + 3, none⟩ = some (.int .i64 x.b) ∧ w.cell? ⟨b, off + i * 8 + 4, none⟩ = some (.int .i64 x.c) ∧ w.cell? ⟨b, off + i * 8 + 5, none⟩ = some (.bool x.ha) ∧ w.cell? ⟨b, off + i * 8 + 6, none⟩ = some (.bool x.hb) ∧ w.cell? ⟨b, off + i * 8 + 7, none⟩ = some (.int .i64 x.at_)
  i : c.is = [] ∨ ∃ b off, A4 = some ⟨b, off, none⟩ ∧ b < w.heap.size ∧ ∀ (i : Nat) (x : InsD), c.is[i]? = some x → w.cell? ⟨b, off + i * 7, none⟩ = some (.int .i64 x.op) ∧ w.cell? ⟨b, off + i * 7 + 1, none⟩ = some (.int .i64 x.p) ∧ w.cell? ⟨b, off + i * 7 + 2, none⟩ = some (.int .i64 x.sign) ∧ w.cell? ⟨b, off + i * 7 + 3, none⟩ = some (.int .i64 x.kind) ∧ w.cell? ⟨b, off + i * 7 + 4, none⟩ = some (.int .i64 x.n) ∧ w.cell? ⟨b, off + i * 7 + 5, none⟩ = some (.string x.s) ∧ w.cell? ⟨b, off + i * 7 + 6, none⟩ = some (.int .i64 x.tt)
theorem CM.bel {w w' : World} {A1 A2 A3 A4 : Option Addr} {c : CodeD} (h : CM w A1 A2 A3 A4 c) (hb : Bel w.heap.size w w') : CM w' A1 A2 A3 A4 c := by
  have key : ∀ b o, b < w.heap.size → w'.cell? ⟨b, o, none⟩ = w.cell? ⟨b, o, none⟩ := fun b o h => hb.cell (p := ⟨b, o, none⟩) h
  refine ⟨h.p.imp id ?_, h.g.imp id ?_, h.s.imp id ?_, h.i.imp id ?_⟩
  all_goals
    rintro ⟨b, off, e, hl, hc⟩
    refine ⟨b, off, e, by have := hb.size; omega, fun i x hx => ?_⟩
    simp only [key _ _ hl]
    exact hc i x hx

end Go.Proofs.Ythlcbjjeklkmfaa
