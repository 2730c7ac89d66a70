/- verify: caught (recover). -/
import Derived.Test.YthlcbjjeklkmfaaVf
import Derived.Recover
namespace Go.Proofs.Ythlcbjjeklkmfaa
open Go.RowKit

set_option maxRecDepth 100000 in
set_option maxHeartbeats 1000000 in
theorem caught_idle (p : Addr) (x : Bool) (w : World) (hc : w.cell? p = some (.bool x)) (hz : w.frozen? p = false) :
    CallsD Try.prog 11 #[.pointer (some p)] .returning w fun e u' w' => e = .returned (.tuple #[]) ∧ u' = .returning ∧ w' = w.setCell p (.bool true) := by
  refine callsD_of_wpS Try.func11 rfl fun c₀ cs hu => ?_
  apply wpS_seq
  apply wpS_region
  simp [wpOpsS, go_sem, recoverD, hu, Try.ntmps11, Exit.thenS]
  refine wpS_of_wp ?_
  go_wp2
  cases c₀
  simp_all [bodyPostS, results, Try.results11]

set_option maxRecDepth 100000 in
set_option maxHeartbeats 1000000 in
theorem caught_fault (p : Addr) (w : World) :
    CallsD Try.prog 11 #[.pointer (some p)] (.panicking FAULT) w fun e u' w' => e = .returned (.tuple #[]) ∧ u' = .panicking [{ v := .iface 49 (.agg #[]), recovered := true }] ∧ w' = w.alloc (.cells #[] 49) := by
  refine callsD_of_wpS Try.func11 rfl fun c₀ cs hu => ?_
  unfold FAULT at hu
  have hta : ∀ w, (Instr.typeAssert (.iface 49 (.agg #[])) 20 49 true).run Try.prog w = .ok (.tuple #[.agg #[], .bool true]) w := fun w => by kernel_rfl
  apply wpS_seq
  apply wpS_region
  simp [wpOpsS, go_sem, recoverD, hu, Try.ntmps11, Exit.thenS]
  refine wpS_of_wp ?_
  go_wp2
  simp [bodyPostS, results, Try.results11]

/-- The code's box and the result's cell. -/
def RS (w wr : World) (cv : Array Value) (r : Bool) (A1 A2 A3 A4 : Option Addr) (cd : CodeD) : Prop :=
  Blk wr w.heap.size 27 cv ∧ Blk wr (w.heap.size + 1) 4 #[.bool r] ∧ CM wr A1 A2 A3 A4 cd ∧ Bel w.heap.size w wr
theorem RS.bel {w wr w2 : World} {cv : Array Value} {r : Bool} {A1 A2 A3 A4 : Option Addr} {cd : CodeD} (h : RS w wr cv r A1 A2 A3 A4 cd) (hb : Bel wr.heap.size wr w2) : RS w w2 cv r A1 A2 A3 A4 cd :=
  ⟨h.1.bel hb h.1.lt, h.2.1.bel hb h.2.1.lt, h.2.2.1.bel hb, h.2.2.2.next hb⟩
theorem RS.start {w : World} {cv : Array Value} {r : Bool} {A1 A2 A3 A4 : Option Addr} {cd : CodeD} (h : CM w A1 A2 A3 A4 cd) : RS w ((w.alloc (.cells cv 27)).alloc (.cells #[.bool r] 4)) cv r A1 A2 A3 A4 cd :=
  ⟨(Blk.new _ _ _).alloc _, Blk.new1 _ _ _ _, h.bel (((Bel.refl _ _).alloc (Nat.le_refl _) _).alloc (by simp) _), ((Bel.refl _ _).alloc (Nat.le_refl _) _).alloc (by simp) _⟩

set_option maxRecDepth 100000 in
set_option maxHeartbeats 1000000 in
theorem psing_any (A1 A2 A3 A4 : Option Addr) (c1 c2 c3 c4 : Nat) (cd : CodeD) (p : Int) (w : World) (h : CM w A1 A2 A3 A4 cd) (l1 : cd.ps.length ≤ 1000000000) (l2 : cd.gs.length ≤ 1000000000) (l3 : cd.ss.length ≤ 1000000000) (lc : cd.gs.length ≤ c2) :
    Calls Try.prog 9 #[.agg #[.slice A1 cd.ps.length c1, .slice A2 cd.gs.length c2, .slice A3 cd.ss.length c3, .slice A4 cd.is.length c4], .int .i64 p] w fun e w' => e = .returned (.bool (singleOK cd p)) ∧ Bel w.heap.size w w' := by
  have hsi := fun w h => single_any A1 A2 A3 A4 c1 c2 c3 c4 cd p w h l1 l2 l3 lc
  have HS0 := Lib.hid (RS.start (cv := #[.slice A1 cd.ps.length c1, .slice A2 cd.gs.length c2, .slice A3 cd.ss.length c3, .slice A4 cd.is.length c4]) (r := false) h)
  have HC0 := Lib.hid HS0.out.2.2.1
  obtain ⟨r, hr⟩ : ∃ r, singleOK cd p = r := ⟨_, rfl⟩
  rw [hr] at hsi ⊢
  unfold NP' at hsi
  clear h
  cases r with
  | true =>
    simp only [if_true] at hsi
    go_enter_defers Try.func9, Try.ntmps9
    go_wp2_with (go_at_call 19; refine (hsi _ HC0.out).mono ?_; rintro e w1 ⟨rfl, hb⟩; have HS := Lib.hid (HS0.out.bel hb); clear hb; have hxsz := HS.out.2.1.lt; have hx0 : w1.cell? ⟨w.heap.size + 1, 0, none⟩ = some (.bool false) := HS.out.2.1.cell 0; have hy0 := HS.out.2.1.frozen 0)
    refine leaves_cons (f := 11) (args := #[.pointer (some ⟨w.heap.size + 1, 0, none⟩)]) (by simp) (by simp [go_sem]) ?_
    refine (caught_idle ⟨w.heap.size + 1, 0, none⟩ true _ ?_ ?_).mono ?_
    · simp [go_sem, hx0]
    · simp [go_sem, hy0]
    rintro e u' w'' ⟨rfl, rfl, rfl⟩
    simp [Leaves, settle, results, Try.results9, go_sem, hx0]
    exact (HS.out.2.2.2.setCell (by simp) _).setCell (by simp) _
  | false =>
    simp only [Bool.false_eq_true, if_false] at hsi
    go_enter_defers Try.func9, Try.ntmps9
    go_wp2_with (go_at_call 19; refine (hsi _ HC0.out).mono ?_; rintro e w1 ⟨rfl, hb⟩; have HS := Lib.hid (HS0.out.bel hb); clear hb; have hxsz := HS.out.2.1.lt; have hx0 : w1.cell? ⟨w.heap.size + 1, 0, none⟩ = some (.bool false) := HS.out.2.1.cell 0; have hy0 := HS.out.2.1.frozen 0)
    refine leaves_cons (f := 11) (args := #[.pointer (some ⟨w.heap.size + 1, 0, none⟩)]) (by simp) (by simp [go_sem]) ?_
    refine (caught_fault ⟨w.heap.size + 1, 0, none⟩ _).mono ?_
    rintro e u' w'' ⟨rfl, rfl, rfl⟩
    simp [Leaves, settle, results, Try.results9, go_sem, hx0, hxsz]
    exact HS.out.2.2.2.alloc HS.out.2.2.2.size _

end Go.Proofs.Ythlcbjjeklkmfaa
