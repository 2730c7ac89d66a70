/- G43: Va, Vb, Vc, Vd, Ve joined. -/
import Derived.Test.YtpcbcodmocmilaaVp
import Derived.Test.YtpcbcodmocmilaaG07
namespace Go.Proofs.Ytpcbcodmocmilaa
open Go.RowKit
/- verify: need, within; ref20: seg. -/
section
open Go.RowKit

/-- What is thrown. -/
def FAULT : List PanicEntry := [{ v := .iface 73 (.agg #[]), recovered := false }]
/-- A helper's end: it comes back, or throws. -/
def NP' (b : Bool) (e : Ending) : Prop := if b then e = .returned (.tuple #[]) else e = .panicked FAULT

theorem np_t {e : Ending} (h : NP' true e) : e = .returned (.tuple #[]) := h
theorem np_f {e : Ending} (h : NP' false e) : e = .panicked FAULT := h
set_option maxRecDepth 100000 in
set_option maxHeartbeats 400000 in
theorem need_t (w : World) : Calls Try.prog 12 #[.bool true] w fun e w' => e = .returned (.tuple #[]) ∧ w = w' := by
  go_enter Try.func12, Try.ntmps12
  go_wp2
  go_end0
  exact ⟨rfl, rfl⟩
set_option maxRecDepth 100000 in
set_option maxHeartbeats 400000 in
theorem need_f (w : World) : Calls Try.prog 12 #[.bool false] w fun e w' => e = .panicked FAULT ∧ w = w' := by
  go_enter Try.func12, Try.ntmps12
  go_wp2
  exact ⟨rfl, rfl, rfl⟩

set_option maxRecDepth 100000 in
set_option maxHeartbeats 400000 in
theorem within_any (a b : Int) (n : Nat) (w : World) : Calls Try.prog 14 #[.int .i64 a, .int .i64 b, .int .i64 (n : Int)] w fun e w' => NP' (inR a b n) e ∧ w = w' := by
  have ht := need_t; have hf := need_f
  unfold NP' inR
  by_cases h1 : 0 ≤ a
  · by_cases h2 : a ≤ b
    · by_cases h3 : b ≤ (n : Int)
      · simp only [h1, h2, h3, decide_true, Bool.true_and, if_true]
        go_enter Try.func14, Try.ntmps14
        go_wp2_with (go_at_call 12; refine (ht _).mono ?_; rintro e w' ⟨rfl, rfl⟩)
        go_end0
        exact ⟨rfl, rfl⟩
      · simp only [h1, h2, h3, decide_true, decide_false, Bool.and_false, Bool.false_eq_true, if_false]
        go_enter Try.func14, Try.ntmps14
        go_wp2_with (go_at_call 12; refine (hf _).mono ?_; rintro e w' ⟨rfl, rfl⟩)
        exact ⟨rfl, rfl, rfl⟩
    · simp only [h1, h2, decide_true, decide_false, Bool.and_false, Bool.false_and, Bool.false_eq_true, if_false]
      go_enter Try.func14, Try.ntmps14
      go_wp2_with (go_at_call 12; refine (hf _).mono ?_; rintro e w' ⟨rfl, rfl⟩)
      exact ⟨rfl, rfl, rfl⟩
  · simp only [h1, decide_false, Bool.false_and, Bool.false_eq_true, if_false]
    go_enter Try.func14, Try.ntmps14
    go_wp2_with (go_at_call 12; refine (hf _).mono ?_; rintro e w' ⟨rfl, rfl⟩)
    exact ⟨rfl, rfl, rfl⟩

/-- The code's slices in memory. -/
structure CM (w : World) (A1 A2 A3 A4 : Option Addr) (c : CodeD) : Prop where
  p : c.ps = [] ∨ ∃ b off, A1 = some ⟨b, off, none⟩ ∧ b < w.heap.size ∧ ∀ (i : Nat) (x : PathD), c.ps[i]? = some x → w.cell? ⟨b, off + i * 3, none⟩ = some (.bool x.abs) ∧ w.cell? ⟨b, off + i * 3 + 1, none⟩ = some (.int .i64 x.fr) ∧ w.cell? ⟨b, off + i * 3 + 2, none⟩ = some (.int .i64 x.tt)
  g : c.gs = [] ∨ ∃ b off, A2 = some ⟨b, off, none⟩ ∧ b < w.heap.size ∧ ∀ (i : Nat) (x : SegD), c.gs[i]? = some x → w.cell? ⟨b, off + i * 3, none⟩ = some (.bool x.deep) ∧ w.cell? ⟨b, off + i * 3 + 1, none⟩ = some (.int .i64 x.fr) ∧ w.cell? ⟨b, off + i * 3 + 2, none⟩ = some (.int .i64 x.tt)
  s : c.ss = [] ∨ ∃ b off, A3 = some ⟨b, off, none⟩ ∧ b < w.heap.size ∧ ∀ (i : Nat) (x : SelD), c.ss[i]? = some x → w.cell? ⟨b, off + i * 8, none⟩ = some (.int .i64 x.kind) ∧ w.cell? ⟨b, off + i * 8 + 1, none⟩ = some (.string x.nm) ∧ w.cell? ⟨b, off + i * 8 + 2, none⟩ = some (.int .i64 x.a) ∧ w.cell? ⟨b, off + i * 8 + 3, none⟩ = some (.int .i64 x.b) ∧ w.cell? ⟨b, off + i * 8 + 4, none⟩ = some (.int .i64 x.c) ∧ w.cell? ⟨b, off + i * 8 + 5, none⟩ = some (.bool x.ha) ∧ w.cell? ⟨b, off + i * 8 + 6, none⟩ = some (.bool x.hb) ∧ w.cell? ⟨b, off + i * 8 + 7, none⟩ = some (.int .i64 x.at_)
  i : c.is = [] ∨ ∃ b off, A4 = some ⟨b, off, none⟩ ∧ b < w.heap.size ∧ ∀ (i : Nat) (x : InsD), c.is[i]? = some x → w.cell? ⟨b, off + i * 7, none⟩ = some (.int .i64 x.op) ∧ w.cell? ⟨b, off + i * 7 + 1, none⟩ = some (.int .i64 x.p) ∧ w.cell? ⟨b, off + i * 7 + 2, none⟩ = some (.int .i64 x.sign) ∧ w.cell? ⟨b, off + i * 7 + 3, none⟩ = some (.int .i64 x.kind) ∧ w.cell? ⟨b, off + i * 7 + 4, none⟩ = some (.int .i64 x.n) ∧ w.cell? ⟨b, off + i * 7 + 5, none⟩ = some (.string x.s) ∧ w.cell? ⟨b, off + i * 7 + 6, none⟩ = some (.int .i64 x.tt)
theorem CM.bel {w w' : World} {A1 A2 A3 A4 : Option Addr} {c : CodeD} (h : CM w A1 A2 A3 A4 c) (hb : Bel w.heap.size w w') : CM w' A1 A2 A3 A4 c := by
  have key : ∀ b o, b < w.heap.size → w'.cell? ⟨b, o, none⟩ = w.cell? ⟨b, o, none⟩ := fun b o h => hb.cell (p := ⟨b, o, none⟩) h
  refine ⟨h.p.imp id ?_, h.g.imp id ?_, h.s.imp id ?_, h.i.imp id ?_⟩
  all_goals
    rintro ⟨b, off, e, hl, hc⟩
    refine ⟨b, off, e, by have := hb.size; omega, fun i x hx => ?_⟩
    simp only [key _ _ hl]
    exact hc i x hx

end
/- ref20: there. -/
section
open Go.RowKit

theorem Blk.three {w : World} {g : Nat} {t : TypeId} {a b c : Value} (h : Blk w g t #[a, b, c]) : g < w.heap.size ∧ (w.cell? ⟨g, 0, none⟩ = some a ∧ w.cell? ⟨g, 1, none⟩ = some b ∧ w.cell? ⟨g, 2, none⟩ = some c) ∧ w.frozen? ⟨g, 0, none⟩ = false ∧ w.frozen? ⟨g, 1, none⟩ = false ∧ w.frozen? ⟨g, 2, none⟩ = false :=
  ⟨h.lt, ⟨h.cell 0, h.cell 1, h.cell 2⟩, h.frozen 0, h.frozen 1, h.frozen 2⟩
theorem Blk.four {w : World} {g : Nat} {t : TypeId} {a b c d : Value} (h : Blk w g t #[a, b, c, d]) : g < w.heap.size ∧ (w.cell? ⟨g, 0, none⟩ = some a ∧ w.cell? ⟨g, 1, none⟩ = some b ∧ w.cell? ⟨g, 2, none⟩ = some c ∧ w.cell? ⟨g, 3, none⟩ = some d) ∧ w.frozen? ⟨g, 0, none⟩ = false ∧ w.frozen? ⟨g, 1, none⟩ = false ∧ w.frozen? ⟨g, 2, none⟩ = false ∧ w.frozen? ⟨g, 3, none⟩ = false :=
  ⟨h.lt, ⟨h.cell 0, h.cell 1, h.cell 2, h.cell 3⟩, h.frozen 0, h.frozen 1, h.frozen 2, h.frozen 3⟩
end
/- ref20: Singular. -/
section
open Go.RowKit

def US (w wr : World) (cv : Array Value) (A1 A2 A3 A4 : Option Addr) (cd : CodeD) : Prop := Blk wr w.heap.size 29 cv ∧ CM wr A1 A2 A3 A4 cd ∧ Bel w.heap.size w wr
theorem US.bel {w wr w2 : World} {cv : Array Value} {A1 A2 A3 A4 : Option Addr} {cd : CodeD} (h : US w wr cv A1 A2 A3 A4 cd) (hb : Bel wr.heap.size wr w2) : US w w2 cv A1 A2 A3 A4 cd := ⟨h.1.bel hb h.1.lt, h.2.1.bel hb, h.2.2.next hb⟩
theorem US.alloc {w wr : World} {cv : Array Value} {A1 A2 A3 A4 : Option Addr} {cd : CodeD} (h : US w wr cv A1 A2 A3 A4 cd) (o : Obj) : US w (wr.alloc o) cv A1 A2 A3 A4 cd := h.bel ((Bel.refl _ _).alloc (Nat.le_refl _) o)
theorem US.start {w : World} {cv : Array Value} {A1 A2 A3 A4 : Option Addr} {cd : CodeD} (h : CM w A1 A2 A3 A4 cd) : US w (w.alloc (.cells cv 29)) cv A1 A2 A3 A4 cd :=
  ⟨Blk.new _ _ _, h.bel ((Bel.refl _ _).alloc (Nat.le_refl _) _), (Bel.refl _ _).alloc (Nat.le_refl _) _⟩

end
/- verify: path. -/
section
open Go.RowKit

/-- What path does: it comes back with the path, or throws. -/
def PathP (cd : CodeD) (p : Int) (w : World) (e : Ending) (w' : World) : Prop :=
  Bel w.heap.size w w' ∧ match thereOK cd p, getP cd p with
    | true, some x => e = .returned (.agg #[.bool x.abs, .int .i64 x.fr, .int .i64 x.tt])
    | _, _ => e = .panicked FAULT

set_option maxRecDepth 100000 in
set_option maxHeartbeats 1000000 in
theorem path_out (A1 A2 A3 A4 : Option Addr) (c1 c2 c3 c4 : Nat) (cd : CodeD) (p : Int) (w : World) (hp : p < 0 ∨ (cd.ps.length : Int) ≤ p) :
    Calls Try.prog 13 #[.agg #[.slice A1 cd.ps.length c1, .slice A2 cd.gs.length c2, .slice A3 cd.ss.length c3, .slice A4 cd.is.length c4], .int .i64 p] w (PathP cd p w) := by
  have hf := need_f
  have hg : getP cd p = none := by
    unfold getP
    by_cases h : p < 0
    · rw [if_pos h]
    · rw [if_neg h, List.getElem?_eq_none (by omega)]
  have hP : ∀ w', Bel w.heap.size w w' → PathP cd p w (.panicked FAULT) w' := fun w' hb => ⟨hb, by unfold thereOK; rw [hg]⟩
  by_cases h0 : p < 0
  · go_enter Try.func13, Try.ntmps13
    go_wp2_with (go_at_call 12; refine (hf _).mono ?_; rintro e w' ⟨rfl, rfl⟩)
    exact ⟨rfl, hP _ (Bel.of (by (repeat' (first | (with_reducible exact Below.refl _ _) | (with_reducible refine Below.trans ?_ (below_drewN _ _ _)) | (with_reducible refine Below.alloc ?_ ?_ _) | (with_reducible refine Below.setCell ?_ ?_ _) | (with_reducible refine Below.drew ?_) | go_size))))⟩
  · have h1 : (cd.ps.length : Int) ≤ p := by omega
    have hd : decide (p < (cd.ps.length : Int)) = false := decide_eq_false (by omega)
    go_enter Try.func13, Try.ntmps13
    go_wp2_with (go_at_call 12; refine (hf _).mono ?_; rintro e w' ⟨rfl, rfl⟩)
    exact ⟨rfl, hP _ (Bel.of (by (repeat' (first | (with_reducible exact Below.refl _ _) | (with_reducible refine Below.trans ?_ (below_drewN _ _ _)) | (with_reducible refine Below.alloc ?_ ?_ _) | (with_reducible refine Below.setCell ?_ ?_ _) | (with_reducible refine Below.drew ?_) | go_size))))⟩

set_option maxRecDepth 100000 in
set_option maxHeartbeats 1000000 in
theorem path_bad (A1 A2 A3 A4 : Option Addr) (c1 c2 c3 c4 : Nat) (cd : CodeD) (j : Nat) (x : PathD) (w : World) (h : CM w A1 A2 A3 A4 cd) (hx : cd.ps[j]? = some x) (_l1 : cd.ps.length ≤ 1000000000) (_l2 : cd.gs.length ≤ 1000000000) (hin : inR x.fr x.tt cd.gs.length = false) :
    Calls Try.prog 13 #[.agg #[.slice A1 cd.ps.length c1, .slice A2 cd.gs.length c2, .slice A3 cd.ss.length c3, .slice A4 cd.is.length c4], .int .i64 (j : Int)] w (PathP cd (j : Int) w) := by
  have ht := need_t
  have hg : getP cd (j : Int) = some x := by unfold getP; rw [if_neg (by omega), Int.toNat_natCast]; exact hx
  have hP : ∀ w', Bel w.heap.size w w' → PathP cd (j : Int) w (.panicked FAULT) w' := fun w' hb => ⟨hb, by unfold thereOK; rw [hg]; unfold pathOK; simp only [hin, Bool.false_and]⟩
  have hwi := fun w => within_any x.fr x.tt cd.gs.length w
  unfold NP' at hwi
  simp only [hin, Bool.false_eq_true, if_false] at hwi
  have hj : j < cd.ps.length := (List.getElem?_eq_some_iff.1 hx).1
  obtain ⟨b1, o1, e1, hb1, hc1⟩ := h.p.resolve_left (by intro e; rw [e] at hj; simp at hj)
  subst e1
  obtain ⟨q0, q1, q2⟩ := hc1 j x hx
  obtain ⟨pa, fr, tt⟩ := x
  simp only at q0 q1 q2 hwi
  clear hc1 hx h hg hin
  have hjl : (j : Int) < cd.ps.length := by omega
  go_enter Try.func13, Try.ntmps13
  go_wp2_with (first
    | (go_at_call 12; refine (ht _).mono ?_; rintro e w' ⟨rfl, rfl⟩)
    | (go_at_call 14; refine (hwi _).mono ?_; rintro e w' ⟨rfl, rfl⟩))
  exact ⟨rfl, hP _ (Bel.of (by (repeat' (first | (with_reducible exact Below.refl _ _) | (with_reducible refine Below.trans ?_ (below_drewN _ _ _)) | (with_reducible refine Below.alloc ?_ ?_ _) | (with_reducible refine Below.setCell ?_ ?_ _) | (with_reducible refine Below.drew ?_) | go_size))))⟩

end
/- verify: path, a good range. -/
section
open Go.RowKit

/-- The memory while path goes on. -/
def PM (w wr : World) (cv pv : Array Value) (A1 A2 A3 A4 : Option Addr) (cd : CodeD) : Prop :=
  Blk wr w.heap.size 29 cv ∧ Blk wr (w.heap.size + 1) 40 #[.bool false, .int .i64 0, .int .i64 0] ∧ Blk wr (w.heap.size + 1 + 1) 40 pv ∧ CM wr A1 A2 A3 A4 cd ∧ Bel w.heap.size w wr
theorem PM.bel {w wr w2 : World} {cv pv : Array Value} {A1 A2 A3 A4 : Option Addr} {cd : CodeD} (h : PM w wr cv pv A1 A2 A3 A4 cd) (hb : Bel wr.heap.size wr w2) : PM w w2 cv pv A1 A2 A3 A4 cd :=
  ⟨h.1.bel hb h.1.lt, h.2.1.bel hb h.2.1.lt, h.2.2.1.bel hb h.2.2.1.lt, h.2.2.2.1.bel hb, h.2.2.2.2.next hb⟩
theorem PM.alloc {w wr : World} {cv pv : Array Value} {A1 A2 A3 A4 : Option Addr} {cd : CodeD} (h : PM w wr cv pv A1 A2 A3 A4 cd) (o : Obj) : PM w (wr.alloc o) cv pv A1 A2 A3 A4 cd := h.bel ((Bel.refl _ _).alloc (Nat.le_refl _) o)
theorem PM.start {w : World} {cv pv : Array Value} {A1 A2 A3 A4 : Option Addr} {cd : CodeD} (h : CM w A1 A2 A3 A4 cd) : PM w (((w.alloc (.cells cv 29)).alloc (.cells #[.bool false, .int .i64 0, .int .i64 0] 40)).alloc (.cells pv 40)) cv pv A1 A2 A3 A4 cd :=
  ⟨((Blk.new _ _ _).alloc _).alloc _, (Blk.new1 _ _ _ _).alloc _, by have := Blk.new ((w.alloc (.cells cv 29)).alloc (.cells #[.bool false, .int .i64 0, .int .i64 0] 40)) 40 pv; simpa using this, h.bel ((((Bel.refl _ _).alloc (Nat.le_refl _) _).alloc (by simp) _).alloc (by simp; omega) _), (((Bel.refl _ _).alloc (Nat.le_refl _) _).alloc (by simp) _).alloc (by simp; omega) _⟩

set_option maxRecDepth 100000 in
set_option maxHeartbeats 2000000 in
theorem path_in (A1 A2 A3 A4 : Option Addr) (c1 c2 c3 c4 : Nat) (cd : CodeD) (j : Nat) (pa : Bool) (a b : Nat) (w : World) (h : CM w A1 A2 A3 A4 cd) (hx : cd.ps[j]? = some ⟨pa, a, b⟩) (_l1 : cd.ps.length ≤ 1000000000) (l2 : cd.gs.length ≤ 1000000000) (_l3 : cd.ss.length ≤ 1000000000) (lc : cd.gs.length ≤ c2) (hab : a ≤ b) (hbl : b ≤ cd.gs.length) :
    Calls Try.prog 13 #[.agg #[.slice A1 cd.ps.length c1, .slice A2 cd.gs.length c2, .slice A3 cd.ss.length c3, .slice A4 cd.is.length c4], .int .i64 (j : Int)] w (PathP cd (j : Int) w) := by
  have ht := need_t
  have hin : inR (a : Int) (b : Int) cd.gs.length = true := by unfold inR; simp; omega
  have hwi := fun w => within_any (a : Int) (b : Int) cd.gs.length w
  unfold NP' at hwi
  simp only [hin, if_true] at hwi
  have hg : getP cd (j : Int) = some ⟨pa, a, b⟩ := by unfold getP; rw [if_neg (by omega), Int.toNat_natCast]; exact hx
  have HQ : Hid (thereOK cd (j : Int) = ((cd.gs.drop (a + 0)).take (b - (a + 0))).all (segOK cd)) := Lib.hid (by unfold thereOK; rw [hg]; simp only; unfold pathOK; simp only [hin, Bool.true_and]; rfl)
  have hT : ∀ w', Bel w.heap.size w w' → thereOK cd (j : Int) = true → PathP cd (j : Int) w (.returned (.agg #[.bool pa, .int .i64 (a : Int), .int .i64 (b : Int)])) w' := fun w' hb ht => ⟨hb, by rw [ht, hg]⟩
  have hP : ∀ w', Bel w.heap.size w w' → thereOK cd (j : Int) = false → PathP cd (j : Int) w (.panicked FAULT) w' := fun w' hb ht => ⟨hb, by rw [ht]⟩
  have hj : j < cd.ps.length := (List.getElem?_eq_some_iff.1 hx).1
  obtain ⟨b1, o1, e1, hb1, hc1⟩ := h.p.resolve_left (by intro e; rw [e] at hj; simp at hj)
  subst e1
  obtain ⟨q0, q1, q2⟩ := hc1 j _ hx
  simp only at q0 q1 q2
  have HS0 := Lib.hid (PM.start (cv := #[.slice (some ⟨b1, o1, none⟩) cd.ps.length c1, .slice A2 cd.gs.length c2, .slice A3 cd.ss.length c3, .slice A4 cd.is.length c4]) (pv := #[.bool pa, .int .i64 (a : Int), .int .i64 (b : Int)]) h)
  have HG := Lib.hid h.g
  clear hc1 hx h hin hg
  have hjl : (j : Int) < cd.ps.length := by omega
  generalize hPp : PathP cd (j : Int) w = PP at hT hP ⊢
  have HT := Lib.hid hT; have HP := Lib.hid hP; clear hT hP hPp
  go_enter Try.func13, Try.ntmps13
  go_upto_region 4 with (first
    | (go_at_call 12; refine (ht _).mono ?_; rintro e w' ⟨rfl, rfl⟩)
    | (go_at_call 14; refine (hwi _).mono ?_; rintro e w' ⟨rfl, rfl⟩))
  go_cut [37, 38, 39] (fun u v i wx => ∃ (X : Option Addr) (cap : Nat), u = .slice X (b - a) cap ∧ v = .int .i64 ((b : Int) - a) ∧ i = .int .i64 0 ∧ Hid (a < b → ∃ b2 o2, A2 = some ⟨b2, o2, none⟩ ∧ X = some ⟨b2, o2 + a * 3, none⟩) ∧ Hid (PM w wx #[.slice (some ⟨b1, o1, none⟩) cd.ps.length c1, .slice A2 cd.gs.length c2, .slice A3 cd.ss.length c3, .slice A4 cd.is.length c4] #[.bool pa, .int .i64 (a : Int), .int .i64 (b : Int)] (some ⟨b1, o1, none⟩) A2 A3 A4 cd))
  case first =>
    rcases HG.out with hgs | ⟨b2, o2, e2, _, _⟩
    · obtain rfl : b = 0 := by rw [hgs] at hbl; simp at hbl; exact hbl
      obtain rfl : a = 0 := by omega
      clear HG hgs
      rcases A2 with _ | ⟨b2, o2, p2⟩
      · go_wp2
        go_meet
        case rel => exact ⟨_, _, rfl, rfl, rfl, Lib.hid (fun h => by exfalso; omega), HS0⟩
      · go_wp2
        all_goals
          go_meet
          case rel => exact ⟨_, _, rfl, rfl, rfl, Lib.hid (fun h => by exfalso; omega), HS0⟩
    · subst e2
      clear HG
      have e3 : ((b - a : Nat) : Int) = (b : Int) - a := by omega
      by_cases hca : c2 = a
      · subst hca
        go_wp2
        all_goals
          go_meet
          case rel => exact ⟨_, _, rfl, rfl, rfl, Lib.hid (fun h => by first | exact ⟨_, _, rfl, rfl⟩ | (exfalso; omega)), HS0⟩
      · go_wp2
        all_goals
          go_meet
          case rel => exact ⟨_, _, rfl, rfl, rfl, Lib.hid (fun h => by first | exact ⟨_, _, rfl, rfl⟩ | (exfalso; omega)), HS0⟩
  case rest =>
    obtain ⟨X, cap, rfl, rfl, rfl, HX, HS⟩ := hcut
    clear HG HS0 q0 q1 q2
    go_wp2
    go_loopw [39] (fun i wr => ∃ k : Nat, k ≤ b - a ∧ i = .int .i64 k ∧ Hid (thereOK cd (j : Int) = ((cd.gs.drop (a + k)).take (b - (a + k))).all (segOK cd)) ∧ Hid (PM w wr #[.slice (some ⟨b1, o1, none⟩) cd.ps.length c1, .slice A2 cd.gs.length c2, .slice A3 cd.ss.length c3, .slice A4 cd.is.length c4] #[.bool pa, .int .i64 (a : Int), .int .i64 (b : Int)] (some ⟨b1, o1, none⟩) A2 A3 A4 cd)) (fun i _ => b - a - (intOf i).toNat)
    case atStart => exact ⟨0, by omega, rfl, HQ, HS⟩
    case round =>
      clear HS HQ
      obtain ⟨k, hkb, rfl, HQ, HS⟩ := hrel
      obtain ⟨hx0, hu, hv, hcm, hbe⟩ := HS.out; obtain ⟨xsz, ⟨x0, x1, x2, x3⟩, y0, y1, y2, y3⟩ := hx0.four; obtain ⟨usz, ⟨u0, u1, u2⟩, v0, v1, v2⟩ := hu.three; obtain ⟨psz, ⟨p0, p1, p2⟩, r0, r1, r2⟩ := hv.three; have HC := Lib.hid hcm; have HW := Lib.hid hbe; clear hx0 hu hv hcm hbe
      by_cases hlt : k < b - a
      · obtain ⟨y, hy⟩ : ∃ y, cd.gs[a + k]? = some y := ⟨_, List.getElem?_eq_getElem (by omega)⟩
        have HST := Lib.hid (show ((cd.gs.drop (a + k)).take (b - (a + k))).all (segOK cd) = (segOK cd y && ((cd.gs.drop (a + (k + 1))).take (b - (a + (k + 1)))).all (segOK cd)) by
          have hk : a + k < cd.gs.length := by omega
          have hyk : cd.gs[a + k] = y := by rw [List.getElem?_eq_getElem hk] at hy; injection hy
          rw [List.drop_eq_getElem_cons hk, show b - (a + k) = (b - (a + (k + 1))) + 1 by omega, List.take_succ_cons, List.all_cons, hyk]; rfl)
        obtain ⟨b2, o2, e2, ex⟩ := HX.out (by omega)
        subst ex; subst e2
        obtain ⟨bq, oq, eq, hbq, hcq⟩ := HC.out.g.resolve_left (by intro e; rw [e] at hbl; simp at hbl; omega)
        injection eq with eq; injection eq with eqb eqo; subst eqb; subst eqo
        obtain ⟨g0, g1, g2⟩ := hcq (a + k) y hy
        have eo : o2 + (a + k) * 3 = o2 + a * 3 + k * 3 := by omega
        rw [eo] at g0 g1 g2
        have HSO := Lib.hid (show segOK cd y = (inR y.fr y.tt cd.ss.length && decide (y.fr < y.tt)) from rfl)
        have hw2 := fun w => within_any y.fr y.tt cd.ss.length w
        unfold NP' at hw2
        clear hcq hy eo hwi
        obtain ⟨yd, yf, yt⟩ := y
        simp only at g0 g1 g2 hw2 HSO
        have hkl : (k : Int) < (b : Int) - a := by omega
        have hkl2 : k < b - a := hlt
        cases hi : inR yf yt cd.ss.length with
        | false =>
          simp only [hi, Bool.false_eq_true, if_false] at hw2
          have HF := Lib.hid (show thereOK cd (j : Int) = false by rw [HQ.out, HST.out, HSO.out, hi]; rfl)
          clear hi
          go_wp2_with (go_at_call 14; refine (hw2 _).mono ?_; rintro e w' ⟨rfl, rfl⟩)
          exact ⟨rfl, HP.out _ (HW.out.alloc (by omega) _) HF.out⟩
        | true =>
          simp only [hi, if_true] at hw2
          by_cases hft : yf < yt
          · have hd : decide (yf < yt) = true := decide_eq_true hft
            have HN := Lib.hid (HQ.out.trans (by rw [HST.out, HSO.out, hi, hd]; rfl : _ = ((cd.gs.drop (a + (k + 1))).take (b - (a + (k + 1)))).all (segOK cd)))
            clear hi
            go_wp2_with (first
              | (go_at_call 12; refine (ht _).mono ?_; rintro e w' ⟨rfl, rfl⟩)
              | (go_at_call 14; refine (hw2 _).mono ?_; rintro e w' ⟨rfl, rfl⟩))
            go_roundw
            case rel => exact ⟨k + 1, by omega, by go_num, HN, Lib.hid (HS.out.alloc _)⟩
            case measure => simp [intOf]; omega
          · have hd : decide (yf < yt) = false := decide_eq_false hft
            have HF := Lib.hid (show thereOK cd (j : Int) = false by rw [HQ.out, HST.out, HSO.out, hi, hd]; rfl)
            have hf := need_f
            clear hi
            go_wp2_with (first
              | (go_at_call 12; refine (hf _).mono ?_; rintro e w' ⟨rfl, rfl⟩)
              | (go_at_call 14; refine (hw2 _).mono ?_; rintro e w' ⟨rfl, rfl⟩))
            exact ⟨rfl, HP.out _ (HW.out.alloc (by omega) _) HF.out⟩
      · have HF := Lib.hid (show thereOK cd (j : Int) = true by rw [HQ.out, show b - (a + k) = 0 by omega]; rfl)
        have hkl : ¬ (k : Int) < (b : Int) - a := by omega
        go_wp2
        refine bodyPost_ret (v := .agg #[.bool pa, .int .i64 (a : Int), .int .i64 (b : Int)]) (by simp [results, Try.results13, go_sem, u0, u1, u2]) rfl ?_
        exact HT.out _ (by (repeat' (first | (with_reducible exact HW.out) | (with_reducible exact HB5.out) | (with_reducible refine Bel.setCell ?_ (by first | exact Nat.le_refl _ | (simp; omega) | omega | (simp <;> omega)) _) | (with_reducible refine Bel.alloc ?_ (by first | exact Nat.le_refl _ | (simp; omega) | omega | (simp <;> omega)) _) | (with_reducible refine Bel.drew ?_) | (with_reducible refine Bel.drewN ?_ _)))) HF.out

end

end Go.Proofs.Ytpcbcodmocmilaa
