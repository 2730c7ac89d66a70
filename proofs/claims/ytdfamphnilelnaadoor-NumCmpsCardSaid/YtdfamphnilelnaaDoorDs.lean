/- ref10: Cmp. The law NumCmps walked. -/
import Derived.Test.YtdfamphnilelnaaDoorAw
import Derived.Test.YtdfamphnilelnaaDoorDr
import Derived.Test.YtdfamphnilelnaaDoorDg
import Derived.Test.YtdfamphnilelnaaDoorNg
namespace Go.Proofs.YtdfamphnilelnaaDoor
open Go.RowKit

def YC (w wr : World) (g : Nat) (m : Bool) (A : Option Addr) (ds : List Int) (c : Nat) (pt ex : Int) : Prop :=
  Blk wr g 47 #[.bool m, .slice A ds.length c, .int .i64 pt, .int .i64 ex] ∧ Rd wr A (ds.map (Value.int .i64)) ∧ Bel w.heap.size w wr
section
variable {w wr w2 w1 : World} {g : Nat} {m : Bool} {A : Option Addr} {ds : List Int} {c : Nat} {pt ex : Int}
theorem YC.bel (h : YC w wr g m A ds c pt ex) (hb : Bel wr.heap.size wr w2) : YC w w2 g m A ds c pt ex := ⟨h.1.bel hb h.1.lt, h.2.1.bel hb (Nat.le_refl _), h.2.2.next hb⟩
theorem YC.drew (h : YC w wr g m A ds c pt ex) : YC w wr.drew g m A ds c pt ex := ⟨h.1, h.2.1, h.2.2.drew⟩
theorem YC.start (hr : Rd w1 A (ds.map (Value.int .i64))) (hb : Bel w.heap.size w w1) : YC w (w1.alloc (.cells #[.bool m, .slice A ds.length c, .int .i64 pt, .int .i64 ex] 47)) w1.heap.size m A ds c pt ex := ⟨Blk.new _ _ _, hr.alloc _, hb.alloc hb.size _⟩
end
theorem dI_dig {l : L8} (h : l.all isDig = true) : ∀ d ∈ dI l, 0 ≤ d ∧ d ≤ 9 := by
  intro d hd
  unfold dI at hd
  rw [List.mem_map] at hd
  obtain ⟨c, hc, rfl⟩ := hd
  rw [List.all_eq_true] at h
  have := dig_bd (h c hc)
  omega
def RC (s : ByteArray) (n : Int) (w : World) (r : Int) : Prop := Calls Tryd.prog 11 #[.string s, .int .i64 n] w fun e w' => e = .returned (.int .i64 r) ∧ Bel w.heap.size w w'

set_option maxRecDepth 100000 in
set_option maxHeartbeats 1000000 in
theorem rcmp_no (s : ByteArray) (n : Int) (w : World) (hs : s.size ≤ 50000) (hx : splitL s.data.toList = none) : RC s n w 0 := by
  unfold RC
  have hrd : ∀ w, Calls Tryd.prog 20 #[.string s] w fun e w' => e = .returned (.tuple #[.agg #[.bool false, .slice none 0 0, .int .i64 0, .int .i64 0], .bool false]) ∧ Bel w.heap.size w w' := fun w => by have h := refRead_any s w hs; rw [hx] at h; exact h
  clear hx
  go_enter Tryd.func11, Tryd.ntmps11
  go_wp2_with (go_at_call 20; refine (hrd _).mono ?_; rintro e w1 ⟨rfl, hb⟩; have HW := Lib.hid hb; have hsz := hb.size; clear hb)
  go_ret
  exact ⟨rfl, by (repeat' (first | (with_reducible exact HW.out) | (with_reducible exact HB5.out) | (with_reducible refine Bel.setCell ?_ (by first | exact Nat.le_refl _ | (simp; omega) | omega | (simp <;> omega)) _) | (with_reducible refine Bel.alloc ?_ (by first | exact Nat.le_refl _ | (simp; omega) | omega | (simp <;> omega)) _) | (with_reducible refine Bel.drew ?_) | (with_reducible refine Bel.drewN ?_ _)))⟩

set_option maxRecDepth 100000 in
set_option maxHeartbeats 2000000 in
theorem rcmp_gen (s : ByteArray) (n : Int) (w : World) (m nm : Bool) (ds db : List Int) (pt ex r : Int)
    (hrd : ∀ w, Calls Tryd.prog 20 #[.string s] w fun e w' => ∃ A c, e = .returned (.tuple #[.agg #[.bool m, .slice A ds.length c, .int .i64 pt, .int .i64 ex], .bool true]) ∧ Rd w' A (ds.map (Value.int .i64)) ∧ Bel w.heap.size w w')
    (hof : ∀ w, Calls Tryd.prog 22 #[.int .i64 n] w fun e w' => ∃ A2 c2, e = .returned (.agg #[.bool nm, .slice A2 db.length c2, .int .i64 (db.length : Int), .int .i64 0]) ∧ Rd w' A2 (db.map (Value.int .i64)) ∧ Bel w.heap.size w w')
    (hless : ∀ A c A2 c2 w, Rd w A (ds.map (Value.int .i64)) → Rd w A2 (db.map (Value.int .i64)) → Calls Tryd.prog 21 #[.agg #[.bool m, .slice A ds.length c, .int .i64 pt, .int .i64 ex], .agg #[.bool nm, .slice A2 db.length c2, .int .i64 (db.length : Int), .int .i64 0]] w fun e w' => e = .returned (.int .i64 r) ∧ Bel w.heap.size w w') : RC s n w r := by
  unfold RC
  go_enter Tryd.func11, Tryd.ntmps11
  go_upto_region 4 with (go_at_call 20; refine (hrd _).mono ?_; rintro e w1 ⟨A, c, rfl, hr, hb⟩; obtain ⟨g, hg⟩ : ∃ g, g = w1.heap.size := ⟨_, rfl⟩; have HY0 := YC.start (m := m) (c := c) (pt := pt) (ex := ex) hr hb; rw [← hg] at HY0; have HG := Lib.hid hg; have HY := Lib.hid HY0; clear hr hb HY0 hg)
  have HGO := HG.out
  obtain ⟨hx, hr, hbe⟩ := HY.out; obtain ⟨xsz, ⟨x0, x1, x2, x3⟩, y0, y1, y2, y3⟩ := hx.four; have HR := Lib.hid hr; have HW := Lib.hid hbe; clear hx hr hbe
  rw [HGO] at x0 x1 x2 x3 y0 y1 y2 y3 xsz
  subst HGO
  go_region_with (first | (go_at_call 22; refine (hof _).mono ?_; rintro e w2 ⟨A2, c2, rfl, hr2, hb⟩; have HY := Lib.hid (show YC w w2 w1.heap.size m A ds c pt ex by first | exact HY.out.bel hb | exact HY.out.drew.bel hb); have HR2 := Lib.hid hr2; clear hb hr2 xsz x0 x1 x2 x3 y0 y1 y2 y3 HR HW; obtain ⟨hx, hr, hbe⟩ := HY.out; obtain ⟨xsz, ⟨x0, x1, x2, x3⟩, y0, y1, y2, y3⟩ := hx.four; have HR := Lib.hid hr; have HW := Lib.hid hbe; clear hx hr hbe) | (go_at_call 21; refine (hless _ _ _ _ _ HR.out HR2.out).mono ?_; rintro e w3 ⟨rfl, hb⟩; have HW3 := Lib.hid (HW.out.next hb); clear hb))
  all_goals
    go_wp2
    go_ret
    exact ⟨rfl, HW3.out⟩

theorem rcmp_any (s : ByteArray) (n : Int) (w : World) (hs : s.size ≤ 50000) (n0 : -9223372036854775808 ≤ n) (n1 : n ≤ 9223372036854775807) : RC s n w (cmpL s.data.toList n) := by
  unfold cmpL
  cases hx : splitL s.data.toList with
  | none => exact rcmp_no s n w hs hx
  | some x =>
    obtain ⟨d1, d2, d3, _⟩ := split_dig hx
    obtain ⟨s1, s2, s3⟩ := split_len hx
    rw [len_toList] at s1 s2
    have he := expR_bd x.e d3
    have hll := natD_len n n0 n1
    have hp := less_plain hx (by rw [len_toList]; exact hs) n n0 n1
    refine rcmp_gen s n w x.m (decide (n < 0)) (dI (x.w ++ x.f)) (dI (natD n)) x.w.length (expR x.e) _ (fun w => ?_) (fun w => ?_) (fun A c A2 c2 w hA hB => ?_)
    · have h := refRead_any s w hs
      rw [hx] at h
      exact h
    · exact of_any n w n0 n1
    · have h := less_any x.m (decide (n < 0)) A A2 (dI (x.w ++ x.f)) (dI (natD n)) c c2 x.w.length ((dI (natD n)).length : Int) (expR x.e) 0 w hA hB (by rw [dI_len, List.length_append]; omega) (by rw [dI_len]; omega) (dI_dig (by rw [List.all_append, d1, d2]; rfl)) (dI_dig (dd_dig _)) (by omega) (by omega) (by omega) (by rw [dI_len]; omega) he.1 he.2 (by omega) (by omega)
      have e : lessR x.m (decide (n < 0)) (dI (x.w ++ x.f)) (dI (natD n)) ((x.w.length : Int) + expR x.e) (((dI (natD n)).length : Int) + 0) = cmpVV (readV x) (wnV n) := by rw [Int.add_zero, dI_len]; exact hp
      rw [e] at h
      unfold numR at h
      exact h

def C1 (s : ByteArray) (n : Int) : Prop := ∀ w : World, Tab w → Calls Tryd.prog 3 #[.string s, .int .i64 n] w fun e w' => e = .returned (.bool true) ∧ Bel w.heap.size w w'

set_option maxRecDepth 100000 in
set_option maxHeartbeats 2000000 in
theorem cmps_big (s : ByteArray) (n : Int) (hs : s.size ≤ 9223372036854775807) (h : 200 < s.size) : C1 s n := by
  intro w _
  have haw := awake_any
  have HB := Lib.hid (Bel.refl w.heap.size w)
  go_enter Tryd.func3, Tryd.ntmps3
  go_wp2_with (go_at_call 9; refine (haw _).mono ?_; rintro e w1 ⟨rfl, hb⟩; have HB := Lib.hid (HB.out.next hb); clear hb)
  go_ret
  exact ⟨rfl, HB.out⟩

set_option maxRecDepth 100000 in
set_option maxHeartbeats 2000000 in
theorem cmps_in (s : ByteArray) (n : Int) (h0 : s.size ≤ 200) (n0 : -9223372036854775808 ≤ n) (n1 : n ≤ 9223372036854775807) : C1 s n := by
  intro w ht
  have haw := awake_any
  have HT := Lib.hid ht; clear ht
  have HB := Lib.hid (Bel.refl w.heap.size w)
  have hc := fun w h => cmp_any s n w n0 n1 h (by omega)
  have hr := fun w => rcmp_any s n w (by omega) n0 n1
  simp only [CH] at hc
  simp only [RC] at hr
  generalize cmpL s.data.toList n = z at *
  go_enter Tryd.func3, Tryd.ntmps3
  go_wp2_with (first
    | (go_at_call 9; refine (haw _).mono ?_; rintro e w1 ⟨rfl, hb⟩; have HB := Lib.hid (HB.out.next hb); clear hb)
    | (go_at_call 10; refine (hc _ (HT.out.bel HB.out (Nat.le_refl _))).mono ?_; rintro e w1 ⟨rfl, hb⟩; have HB := Lib.hid (HB.out.next hb); clear hb)
    | (go_at_call 11; refine (hr _).mono ?_; rintro e w1 ⟨rfl, hb⟩; have HB := Lib.hid (HB.out.next hb); clear hb))
  go_ret
  exact ⟨rfl, HB.out⟩

theorem cmpsLaw_any (s : ByteArray) (n : Int) (w : World) (ht : Tab w) (hs : s.size ≤ 9223372036854775807) (hn : (Lit.int .i64 n).wf = true) :
    Calls Tryd.prog 3 #[.string s, .int .i64 n] w fun e w' => e = .returned (.bool true) ∧ Bel w.heap.size w w' := by
  rcases Nat.lt_or_ge 200 s.size with h | h
  · exact cmps_big s n hs h w ht
  · exact cmps_in s n h (wf_i64 hn).1 (wf_i64 hn).2 w ht

end Go.Proofs.YtdfamphnilelnaaDoor
