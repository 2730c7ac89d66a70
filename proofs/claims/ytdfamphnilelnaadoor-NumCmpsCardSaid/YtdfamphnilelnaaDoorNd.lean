/- num: read, Is, Whole. -/
import Derived.StillTailTactics
import Derived.Test.YtdfamphnilelnaaDoorNb
import Derived.Test.YtdfamphnilelnaaDoorNc
namespace Go.Proofs.YtdfamphnilelnaaDoor
open Go.RowKit

/-- A number's value. -/
def readV (x : NP) : NV := trimV ⟨x.m, x.w ++ x.f, (x.w.length : Int) + powI x.e⟩
theorem powI_sm (l : List UInt8) : -1000000000000000 + 200000 ≤ powI l ∧ powI l ≤ 1000000000000000 - 200000 := by have := powI_bd l; omega

theorem Blk.three {w : World} {g : Nat} {t : TypeId} {a b c : Value} (h : Blk w g t #[a, b, c]) : g < w.heap.size ∧ (w.cell? ⟨g, 0, none⟩ = some a ∧ w.cell? ⟨g, 1, none⟩ = some b ∧ w.cell? ⟨g, 2, none⟩ = some c) ∧ w.frozen? ⟨g, 0, none⟩ = false ∧ w.frozen? ⟨g, 1, none⟩ = false ∧ w.frozen? ⟨g, 2, none⟩ = false :=
  ⟨h.lt, ⟨h.cell 0, h.cell 1, h.cell 2⟩, h.frozen 0, h.frozen 1, h.frozen 2⟩
theorem Blk.four {w : World} {g : Nat} {t : TypeId} {a b c d : Value} (h : Blk w g t #[a, b, c, d]) : g < w.heap.size ∧ (w.cell? ⟨g, 0, none⟩ = some a ∧ w.cell? ⟨g, 1, none⟩ = some b ∧ w.cell? ⟨g, 2, none⟩ = some c ∧ w.cell? ⟨g, 3, none⟩ = some d) ∧ w.frozen? ⟨g, 0, none⟩ = false ∧ w.frozen? ⟨g, 1, none⟩ = false ∧ w.frozen? ⟨g, 2, none⟩ = false ∧ w.frozen? ⟨g, 3, none⟩ = false :=
  ⟨h.lt, ⟨h.cell 0, h.cell 1, h.cell 2, h.cell 3⟩, h.frozen 0, h.frozen 1, h.frozen 2, h.frozen 3⟩
theorem Blk.new1 (w : World) (o : Obj) (t : TypeId) (cs : Array Value) : Blk ((w.alloc o).alloc (.cells cs t)) (w.heap.size + 1) t cs := by
  have := Blk.new (w.alloc o) t cs; simpa using this

set_option maxRecDepth 100000 in
set_option maxHeartbeats 600000 in
theorem read_any (m : Bool) (wv f ev : ByteArray) (w : World) (h1 : wv.size ≤ 50000) (h2 : f.size ≤ 50000) (h3 : ev.size ≤ 50000) :
    Calls Tryd.prog 16 #[.agg #[.bool m, .string wv, .string f, .string ev]] w fun e w' => e = .returned (valV (readV ⟨m, wv.data.toList, f.data.toList, ev.data.toList⟩)) ∧ Bel w.heap.size w w' := by
  have hpw := fun w => power_any ev w (by omega)
  have hpb := powI_sm ev.data.toList
  have HR := Lib.hid (show valV (readV ⟨m, wv.data.toList, f.data.toList, ev.data.toList⟩) = valV (trimV ⟨m, (wv ++ f).data.toList, (wv.size : Int) + powI ev.data.toList⟩) by unfold readV; simp)
  generalize powI ev.data.toList = x at *
  have htr := fun w => trimmed_any m (wv ++ f) ((wv.size : Int) + x) w (by simp; omega) (by omega) (by omega)
  go_enter Tryd.func16, Tryd.ntmps16
  go_wp2
  have hcat : ¬ 9223372036854775807 < wv.size + f.size := by omega
  have hpw' := fun w => (hpw w).mono fun e w' h => (⟨h.1, h.2.symm⟩ : e = .returned (.int .i64 x) ∧ w' = w)
  refine wp_region_still_tail 15 (by kernel_rfl) (by kernel_rfl) ?_
  change wpStill _ _ (World.drew _) (fun a' => wpList _ _ _ _ a' (World.drew _)) _ _
  simp only [List.take_succ_cons, List.take_zero, List.drop_succ_cons, List.drop_zero]
  repeat still_step
  still_call (hpw' _)
  repeat still_step
  refine wpStill_nil ?_
  generalize trimV ⟨m, (wv ++ f).data.toList, (wv.size : Int) + x⟩ = V at *
  obtain ⟨vm, vd, vp⟩ := V
  simp only [valV] at htr HR
  have HW0 := Lib.hid (Bel.of (by (repeat' (first | (with_reducible exact Below.refl _ _) | (with_reducible refine Below.trans ?_ (below_drewN _ _ _)) | (with_reducible refine Below.alloc ?_ ?_ _) | (with_reducible refine Below.setCell ?_ ?_ _) | (with_reducible refine Below.drew ?_) | go_size))) : Bel w.heap.size w ((w.alloc (.cells #[.bool m, .string wv, .string f, .string ev] 36)).alloc (.cells #[.bool false, .string ⟨#[]⟩, .int .i64 0] 40)).drew)
  have HK0 := Lib.hid (show Blk ((w.alloc (.cells #[.bool m, .string wv, .string f, .string ev] 36)).alloc (.cells #[.bool false, .string ⟨#[]⟩, .int .i64 0] 40)).drew (w.heap.size + 1) 40 #[.bool false, .string ⟨#[]⟩, .int .i64 0] from Blk.new1 w _ _ _)
  go_wp2_with (go_at_call 24; refine (htr _).mono ?_; rintro e w1 ⟨rfl, hb⟩; have HK := Lib.hid (HK0.out.bel hb (by simp)); obtain ⟨fsz, ⟨f0, f1, f2⟩, g0, g1, g2⟩ := HK.out.three; have HW := Lib.hid (HW0.out.trans (hb.mono (by simp; omega))); clear hb)
  refine bodyPost_ret (v := .agg #[.bool vm, .string (bs vd), .int .i64 vp]) (by simp [results, Tryd.results16, go_sem, f0, f1, f2, fsz]) rfl ?_
  exact ⟨congrArg Ending.returned HR.out.symm, by (repeat' (first | (with_reducible exact HW.out) | (with_reducible exact HB5.out) | (with_reducible refine Bel.setCell ?_ (by first | exact Nat.le_refl _ | (simp; omega) | omega | (simp <;> omega)) _) | (with_reducible refine Bel.alloc ?_ (by first | exact Nat.le_refl _ | (simp; omega) | omega | (simp <;> omega)) _) | (with_reducible refine Bel.drew ?_) | (with_reducible refine Bel.drewN ?_ _)))⟩

set_option maxRecDepth 100000 in
set_option maxHeartbeats 2000000 in
theorem is_any (s : ByteArray) (w : World) (hs : s.size ≤ 50000) :
    Calls Tryd.prog 14 #[.string s] w fun e w' => e = .returned (.bool (splitL s.data.toList).isSome) ∧ Bel w.heap.size w w' := by
  have hsp := fun w => split_any s w (by omega)
  cases hx : splitL s.data.toList with
  | none =>
    rw [hx] at hsp
    clear hx
    simp only [splitV] at hsp
    go_enter Tryd.func14, Tryd.ntmps14
    go_wp2_with (go_at_call 15; refine (hsp _).mono ?_; rintro e w1 ⟨rfl, hb⟩; have HW := Lib.hid hb; have hsz := hb.size; clear hb)
    go_ret
    exact ⟨rfl, by (repeat' (first | (with_reducible exact HW.out) | (with_reducible exact HB5.out) | (with_reducible refine Bel.setCell ?_ (by first | exact Nat.le_refl _ | (simp; omega) | omega | (simp <;> omega)) _) | (with_reducible refine Bel.alloc ?_ (by first | exact Nat.le_refl _ | (simp; omega) | omega | (simp <;> omega)) _) | (with_reducible refine Bel.drew ?_) | (with_reducible refine Bel.drewN ?_ _)))⟩
  | some x =>
    rw [hx] at hsp
    clear hx
    simp only [splitV] at hsp
    go_enter Tryd.func14, Tryd.ntmps14
    go_wp2_with (go_at_call 15; refine (hsp _).mono ?_; rintro e w1 ⟨rfl, hb⟩; have HW := Lib.hid hb; have hsz := hb.size; clear hb)
    go_ret
    exact ⟨rfl, by (repeat' (first | (with_reducible exact HW.out) | (with_reducible exact HB5.out) | (with_reducible refine Bel.setCell ?_ (by first | exact Nat.le_refl _ | (simp; omega) | omega | (simp <;> omega)) _) | (with_reducible refine Bel.alloc ?_ (by first | exact Nat.le_refl _ | (simp; omega) | omega | (simp <;> omega)) _) | (with_reducible refine Bel.drew ?_) | (with_reducible refine Bel.drewN ?_ _)))⟩

end Go.Proofs.YtdfamphnilelnaaDoor
