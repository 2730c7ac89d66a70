/- G10: Yd, Yc, Qe, Qf joined. -/
import Derived.Deep.RegionHeld3
import Derived.Test.YtpcbcodmocmilaaDoorYb
import Derived.Test.YtpcbcodmocmilaaDoorG08
namespace Go.Proofs.YtpcbcodmocmilaaDoor
open Go.RowKit
/- ref17: number (printed by gen_rb.py). -/
section
open Go.RowKit

section
variable (A : Option Addr) (all : List TokD) (c k : Nat) (E : Int) (t : PSt) (dp : Int) (w : World)

set_option maxRecDepth 100000 in
set_option maxHeartbeats 2000000 in
theorem rnumber_no (h : RIn all k t) (hT : TkR w A all) (hk : kindS t ≠ 3) : Calls Tryd.prog 91 #[rv A all.length c k E t dp] w fun e w' => e = .returned (.tuple #[rv A all.length c k E t dp, .int .i64 0, .bool false]) ∧ Bel w.heap.size w w' := by
  have HB0 := Lib.hid (((Bel.refl w.heap.size w).alloc (Nat.le_refl _) (.cells #[.slice A all.length c, .int .i64 (k : Int), .int .i64 E, .int .i64 t.fe, .int .i64 t.fa, .int .i64 dp] 52)).alloc (by simp) (.cells #[.slice none 0 0, .int .i64 0, .int .i64 0, .int .i64 0, .int .i64 0, .int .i64 0] 52))
  have HV0 := Lib.hid ((Blk.new w 52 #[.slice A all.length c, .int .i64 (k : Int), .int .i64 E, .int .i64 t.fe, .int .i64 t.fa, .int .i64 dp]).alloc (.cells #[.slice none 0 0, .int .i64 0, .int .i64 0, .int .i64 0, .int .i64 0, .int .i64 0] 52))
  have HZ0 := Lib.hid (Blk.new1 w (.cells #[.slice A all.length c, .int .i64 (k : Int), .int .i64 E, .int .i64 t.fe, .int .i64 t.fa, .int .i64 dp] 52) 52 #[.slice none 0 0, .int .i64 0, .int .i64 0, .int .i64 0, .int .i64 0, .int .i64 0])
  obtain ⟨q, hq⟩ : ∃ q, kindS t = q := ⟨_, rfl⟩
  have HK := Lib.hid (rkind_at A all c k E t dp _ q h (hT.bel HB0.out) (Lib.hid hq))
  have hq3 : (q != 3) = true := by rw [bne_iff_ne, ← hq]; exact hk
  clear h hT hk hq
  go_enter Tryd.func91, Tryd.ntmps91
  go_wp2_with (first | (go_at_call 24; refine (HK.out).mono ?_; rintro e w1 ⟨rfl, hb⟩; have HB1 := Lib.hid (HB0.out.next hb); have HV1 := Lib.hid (HV0.out.bel hb HV0.out.lt); have HZ1 := Lib.hid (HZ0.out.bel hb HZ0.out.lt); clear hb; obtain ⟨qz, ⟨q0, q1, q2, q3, q4, q5⟩, ⟨qf0, qf1, qf2, qf3, qf4, qf5⟩⟩ := HV1.out.c6; obtain ⟨zz, ⟨z0, z1, z2, z3, z4, z5⟩, ⟨zf0, zf1, zf2, zf3, zf4, zf5⟩⟩ := HZ1.out.c6))
  exact bodyPost_ret (v := .tuple #[rv A all.length c k E t dp, .int .i64 0, .bool false]) (by simp [results, Tryd.results91, go_sem, z0, z1, z2, z3, z4, z5]) rfl ⟨rfl, HB1.out.far6 (by omega)⟩

set_option maxRecDepth 100000 in
set_option maxHeartbeats 2000000 in
theorem rnumber_yes (h : RIn all k t) (hT : TkR w A all) (hk : kindS t = 3) : Calls Tryd.prog 91 #[rv A all.length c k E t dp] w fun e w' => ∃ k', e = .returned (.tuple #[rv A all.length c k' E (nextS E t) dp, .int .i64 (hdT t).n, .bool true]) ∧ RIn all k' (nextS E t) ∧ Bel w.heap.size w w' := by
  have HB0 := Lib.hid (((Bel.refl w.heap.size w).alloc (Nat.le_refl _) (.cells #[.slice A all.length c, .int .i64 (k : Int), .int .i64 E, .int .i64 t.fe, .int .i64 t.fa, .int .i64 dp] 52)).alloc (by simp) (.cells #[.slice none 0 0, .int .i64 0, .int .i64 0, .int .i64 0, .int .i64 0, .int .i64 0] 52))
  have HV0 := Lib.hid ((Blk.new w 52 #[.slice A all.length c, .int .i64 (k : Int), .int .i64 E, .int .i64 t.fe, .int .i64 t.fa, .int .i64 dp]).alloc (.cells #[.slice none 0 0, .int .i64 0, .int .i64 0, .int .i64 0, .int .i64 0, .int .i64 0] 52))
  have HZ0 := Lib.hid (Blk.new1 w (.cells #[.slice A all.length c, .int .i64 (k : Int), .int .i64 E, .int .i64 t.fe, .int .i64 t.fa, .int .i64 dp] 52) 52 #[.slice none 0 0, .int .i64 0, .int .i64 0, .int .i64 0, .int .i64 0, .int .i64 0])
  obtain ⟨q, hq⟩ : ∃ q, kindS t = q := ⟨_, rfl⟩
  have HK := Lib.hid (rkind_at A all c k E t dp _ q h (hT.bel HB0.out) (Lib.hid hq))
  have hq3 : (q != 3) = false := by rw [← hq, hk]; rfl
  have hov : ovS t = false := by
    cases h9 : ovS t with
    | false => rfl
    | true => have := (nextS_ov (E := E) h9).2; unfold kindS at hk; rw [this] at hk; simp [tok0] at hk
  obtain ⟨hlt, hf⟩ := h.ov_no hov
  obtain ⟨x, hx, -⟩ := h.head hlt
  have hh := h.hd hx hf
  have HN := Lib.hid (fun W (hb : Bel w.heap.size w W) => rnext_any A all c k E t dp W h (hT.bel hb))
  unfold RP at HN
  obtain ⟨b, off, hA, hb0, d0, d1, d2, d3, d4⟩ := hT.at_ hx
  have hlt2 : (k : Int) < (all.length : Int) := by omega
  have hbd := h.bd
  rw [hh]
  subst hA
  clear h hT hk hq hov hf hx hh
  go_enter Tryd.func91, Tryd.ntmps91
  go_upto_region 3 with (first | (go_at_call 24; refine (HK.out).mono ?_; rintro e w1 ⟨rfl, hb⟩; have HB1 := Lib.hid (HB0.out.next hb); have HV1 := Lib.hid (HV0.out.bel hb HV0.out.lt); have HZ1 := Lib.hid (HZ0.out.bel hb HZ0.out.lt); have e2 := (HB1.out.cell (p := ⟨b, off + k * 5 + 2, none⟩) hb0).trans d2; clear hb; obtain ⟨qz, ⟨q0, q1, q2, q3, q4, q5⟩, ⟨qf0, qf1, qf2, qf3, qf4, qf5⟩⟩ := HV1.out.c6; obtain ⟨zz, ⟨z0, z1, z2, z3, z4, z5⟩, ⟨zf0, zf1, zf2, zf3, zf4, zf5⟩⟩ := HZ1.out.c6))
  have hS1 : w1.drew.cell? ⟨w.heap.size, 0, none⟩ = some (.slice (some ⟨b, off, none⟩) all.length c) ∧ w1.drew.cell? ⟨w.heap.size, 1, none⟩ = some (.int .i64 (k : Int)) ∧ w1.drew.cell? ⟨w.heap.size, 2, none⟩ = some (.int .i64 E) ∧ w1.drew.cell? ⟨w.heap.size, 3, none⟩ = some (.int .i64 t.fe) ∧ w1.drew.cell? ⟨w.heap.size, 4, none⟩ = some (.int .i64 t.fa) ∧ w1.drew.cell? ⟨w.heap.size, 5, none⟩ = some (.int .i64 dp) ∧ w1.drew.cell? ⟨b, off + k * 5 + 2, none⟩ = some (.int .i64 x.n) := ⟨q0, q1, q2, q3, q4, q5, e2⟩
  have hn1 : w.heap.size ≠ w.heap.size + 1 := by omega
  have hn2 : b ≠ w.heap.size + 1 := by omega
  go_region_held3 (fun w' => w'.cell? ⟨w.heap.size, 0, none⟩ = some (.slice (some ⟨b, off, none⟩) all.length c) ∧ w'.cell? ⟨w.heap.size, 1, none⟩ = some (.int .i64 (k : Int)) ∧ w'.cell? ⟨w.heap.size, 2, none⟩ = some (.int .i64 E) ∧ w'.cell? ⟨w.heap.size, 3, none⟩ = some (.int .i64 t.fe) ∧ w'.cell? ⟨w.heap.size, 4, none⟩ = some (.int .i64 t.fa) ∧ w'.cell? ⟨w.heap.size, 5, none⟩ = some (.int .i64 dp) ∧ w'.cell? ⟨b, off + k * 5 + 2, none⟩ = some (.int .i64 x.n)) (first | (with_reducible exact hS1) | (with_reducible exact hS2) | (with_reducible exact ⟨cell_far6 hS2.1 hn1, cell_far6 hS2.2.1 hn1, cell_far6 hS2.2.2.1 hn1, cell_far6 hS2.2.2.2.1 hn1, cell_far6 hS2.2.2.2.2.1 hn1, cell_far6 hS2.2.2.2.2.2.1 hn1, cell_far6 hS2.2.2.2.2.2.2 hn2⟩) | (trace_state; fail)) (first | (go_at_call 27; refine (HN.out _ ?_).mono ?_; (first | exact HB1.out | exact HB1.out.drew | exact HB1.out.drew.drew); rintro e w2 ⟨k2, rfl, hi2, hb⟩; have HI2 := Lib.hid hi2; have HB2 := Lib.hid (show Bel w.heap.size w w2 by (first | exact HB1.out.next hb | exact HB1.out.drew.next hb | exact HB1.out.drew.drew.next hb)); have HV2 := Lib.hid (show Blk w2 w.heap.size 52 #[.slice (some ⟨b, off, none⟩) all.length c, .int .i64 (k : Int), .int .i64 E, .int .i64 t.fe, .int .i64 t.fa, .int .i64 dp] by (first | exact HV1.out.bel hb HV1.out.lt | exact HV1.out.drew.bel hb HV1.out.lt | exact HV1.out.drew.drew.bel hb HV1.out.lt)); have HZ2 := Lib.hid (show Blk w2 (w.heap.size + 1) 52 #[.slice none 0 0, .int .i64 0, .int .i64 0, .int .i64 0, .int .i64 0, .int .i64 0] by (first | exact HZ1.out.bel hb HZ1.out.lt | exact HZ1.out.drew.bel hb HZ1.out.lt | exact HZ1.out.drew.drew.bel hb HZ1.out.lt)); clear hi2 hb; obtain ⟨rz, ⟨r0, r1, r2, r3, r4, r5⟩, ⟨rf0, rf1, rf2, rf3, rf4, rf5⟩⟩ := HV2.out.c6; obtain ⟨yz, ⟨y0, y1, y2, y3, y4, y5⟩, ⟨yf0, yf1, yf2, yf3, yf4, yf5⟩⟩ := HZ2.out.c6; have hS2 : w2.cell? ⟨w.heap.size, 0, none⟩ = some (.slice (some ⟨b, off, none⟩) all.length c) ∧ w2.cell? ⟨w.heap.size, 1, none⟩ = some (.int .i64 (k : Int)) ∧ w2.cell? ⟨w.heap.size, 2, none⟩ = some (.int .i64 E) ∧ w2.cell? ⟨w.heap.size, 3, none⟩ = some (.int .i64 t.fe) ∧ w2.cell? ⟨w.heap.size, 4, none⟩ = some (.int .i64 t.fa) ∧ w2.cell? ⟨w.heap.size, 5, none⟩ = some (.int .i64 dp) ∧ w2.cell? ⟨b, off + k * 5 + 2, none⟩ = some (.int .i64 x.n) := ⟨r0, r1, r2, r3, r4, r5, (HB2.out.cell (p := ⟨b, off + k * 5 + 2, none⟩) hb0).trans d2⟩; clear r0 r1 r2 r3 r4 r5 rf0 rf1 rf2 rf3 rf4 rf5))
  all_goals
    go_wp2
    exact bodyPost_ret (v := .tuple #[rv (some ⟨b, off, none⟩) all.length c k2 E (nextS E t) dp, .int .i64 x.n, .bool true]) (by simp [results, Tryd.results91, go_sem, y0, y1, y2, y3, y4, y5]) rfl ⟨k2, rfl, HI2.out, HB2.out.far6 (by omega)⟩

end

end
/- ref17: open (printed by gen_rb.py). -/
section
open Go.RowKit

section
variable (A : Option Addr) (all : List TokD) (c k : Nat) (E : Int) (t : PSt) (dp : Int) (w : World)

set_option maxRecDepth 100000 in
set_option maxHeartbeats 2000000 in
theorem ropen_deep (h : RIn all k t) (hT : TkR w A all) (D : Int) (hD : wrap64 (dp + 1) = D) (hb32 : 32 < D) : Calls Tryd.prog 88 #[rv A all.length c k E t dp] w fun e w' => ∃ k', e = .returned (rv A all.length c k' E (nextS E (failS (atS E t) 5 t)) D) ∧ RIn all k' (nextS E (failS (atS E t) 5 t)) ∧ Bel w.heap.size w w' := by
  have HB0 := Lib.hid ((((Bel.refl w.heap.size w).alloc (Nat.le_refl _) (.cells #[.slice A all.length c, .int .i64 (k : Int), .int .i64 E, .int .i64 t.fe, .int .i64 t.fa, .int .i64 D] 52)).alloc (by simp) (.cells #[.slice none 0 0, .int .i64 0, .int .i64 0, .int .i64 0, .int .i64 0, .int .i64 0] 52)))
  have HV0 := Lib.hid ((Blk.new w 52 #[.slice A all.length c, .int .i64 (k : Int), .int .i64 E, .int .i64 t.fe, .int .i64 t.fa, .int .i64 D]).alloc (.cells #[.slice none 0 0, .int .i64 0, .int .i64 0, .int .i64 0, .int .i64 0, .int .i64 0] 52))
  have HZ0 := Lib.hid (Blk.new1 w (.cells #[.slice A all.length c, .int .i64 (k : Int), .int .i64 E, .int .i64 t.fe, .int .i64 t.fa, .int .i64 D] 52) 52 #[.slice none 0 0, .int .i64 0, .int .i64 0, .int .i64 0, .int .i64 0, .int .i64 0])
  have HAT := Lib.hid (fun W (hb : Bel w.heap.size w W) => rat_any A all c k E t D W h (hT.bel hb))
  have HFL := Lib.hid (fun W => rfail_any A all c k E t D W (atS E t) 5)
  have HN := Lib.hid (fun W (hb : Bel w.heap.size w W) => rnext_any A all c k E (failS (atS E t) 5 t) D W (h.fail _ _) (hT.bel hb))
  unfold RP at HN
  clear h hT
  go_enter Tryd.func88, Tryd.ntmps88
  go_upto_region 3 with fail
  go_region_with (first | (go_at_call 26; refine (HAT.out _ ?_).mono ?_; (first | exact HB0.out | exact HB0.out.drew | exact HB0.out.drew.drew); rintro e w1 ⟨rfl, hb⟩; have HB1 := Lib.hid (show Bel w.heap.size w w1 by (first | exact HB0.out.next hb | exact HB0.out.drew.next hb | exact HB0.out.drew.drew.next hb)); have HV1 := Lib.hid (show Blk w1 w.heap.size 52 #[.slice A all.length c, .int .i64 (k : Int), .int .i64 E, .int .i64 t.fe, .int .i64 t.fa, .int .i64 D] by (first | exact HV0.out.bel hb HV0.out.lt | exact HV0.out.drew.bel hb HV0.out.lt | exact HV0.out.drew.drew.bel hb HV0.out.lt)); have HZ1 := Lib.hid (show Blk w1 (w.heap.size + 1) 52 #[.slice none 0 0, .int .i64 0, .int .i64 0, .int .i64 0, .int .i64 0, .int .i64 0] by (first | exact HZ0.out.bel hb HZ0.out.lt | exact HZ0.out.drew.bel hb HZ0.out.lt | exact HZ0.out.drew.drew.bel hb HZ0.out.lt)); clear hb; obtain ⟨qz, ⟨q0, q1, q2, q3, q4, q5⟩, ⟨qf0, qf1, qf2, qf3, qf4, qf5⟩⟩ := HV1.out.c6; obtain ⟨zz, ⟨z0, z1, z2, z3, z4, z5⟩, ⟨zf0, zf1, zf2, zf3, zf4, zf5⟩⟩ := HZ1.out.c6) | (go_at_call 25; refine (HFL.out _).mono ?_; rintro e w2 ⟨rfl, hb⟩; have HB2 := Lib.hid (show Bel w.heap.size w w2 by (first | exact HB1.out.next hb | exact HB1.out.drew.next hb | exact HB1.out.drew.drew.next hb)); have HV2 := Lib.hid (show Blk w2 w.heap.size 52 #[.slice A all.length c, .int .i64 (k : Int), .int .i64 E, .int .i64 t.fe, .int .i64 t.fa, .int .i64 D] by (first | exact HV1.out.bel hb HV1.out.lt | exact HV1.out.drew.bel hb HV1.out.lt | exact HV1.out.drew.drew.bel hb HV1.out.lt)); have HZ2 := Lib.hid (show Blk w2 (w.heap.size + 1) 52 #[.slice none 0 0, .int .i64 0, .int .i64 0, .int .i64 0, .int .i64 0, .int .i64 0] by (first | exact HZ1.out.bel hb HZ1.out.lt | exact HZ1.out.drew.bel hb HZ1.out.lt | exact HZ1.out.drew.drew.bel hb HZ1.out.lt)); clear hb; clear qz q0 q1 q2 q3 q4 q5 qf0 qf1 qf2 qf3 qf4 qf5; clear zz z0 z1 z2 z3 z4 z5 zf0 zf1 zf2 zf3 zf4 zf5; obtain ⟨qz, ⟨q0, q1, q2, q3, q4, q5⟩, ⟨qf0, qf1, qf2, qf3, qf4, qf5⟩⟩ := HV2.out.c6; obtain ⟨zz, ⟨z0, z1, z2, z3, z4, z5⟩, ⟨zf0, zf1, zf2, zf3, zf4, zf5⟩⟩ := HZ2.out.c6))
  all_goals
    have hne : w.heap.size ≠ w.heap.size + 1 := by omega
    have hne2 : w.heap.size + 1 ≠ w.heap.size := by omega
    go_wp2_with (go_at_call 27; refine (HN.out _ (HB2.out.far6 (Nat.le_refl _))).mono ?_; rintro e w4 ⟨k2, rfl, hi2, hb⟩; have HI2 := Lib.hid hi2; have HB4 := Lib.hid ((HB2.out.far6 (Nat.le_refl _)).next hb); have HZ4 := Lib.hid ((HZ2.out.far6 hne2).bel hb (HZ2.out.far6 hne2).lt); clear hi2 hb; clear qz q0 q1 q2 q3 q4 q5 qf0 qf1 qf2 qf3 qf4 qf5; clear zz z0 z1 z2 z3 z4 z5 zf0 zf1 zf2 zf3 zf4 zf5; obtain ⟨zz, ⟨z0, z1, z2, z3, z4, z5⟩, ⟨zf0, zf1, zf2, zf3, zf4, zf5⟩⟩ := HZ4.out.c6)
    exact bodyPost_ret (v := rv A all.length c k2 E (nextS E (failS (atS E t) 5 t)) D) (by simp [results, Tryd.results88, go_sem, z0, z1, z2, z3, z4, z5]) rfl ⟨k2, rfl, HI2.out, HB4.out.far6 (by omega)⟩

set_option maxRecDepth 100000 in
set_option maxHeartbeats 2000000 in
theorem ropen_ok (h : RIn all k t) (hT : TkR w A all) (D : Int) (hD : wrap64 (dp + 1) = D) (hb32 : ¬ 32 < D) : Calls Tryd.prog 88 #[rv A all.length c k E t dp] w fun e w' => ∃ k', e = .returned (rv A all.length c k' E (nextS E (t)) D) ∧ RIn all k' (nextS E (t)) ∧ Bel w.heap.size w w' := by
  have HB0 := Lib.hid ((((Bel.refl w.heap.size w).alloc (Nat.le_refl _) (.cells #[.slice A all.length c, .int .i64 (k : Int), .int .i64 E, .int .i64 t.fe, .int .i64 t.fa, .int .i64 D] 52)).alloc (by simp) (.cells #[.slice none 0 0, .int .i64 0, .int .i64 0, .int .i64 0, .int .i64 0, .int .i64 0] 52)))
  have HV0 := Lib.hid ((Blk.new w 52 #[.slice A all.length c, .int .i64 (k : Int), .int .i64 E, .int .i64 t.fe, .int .i64 t.fa, .int .i64 D]).alloc (.cells #[.slice none 0 0, .int .i64 0, .int .i64 0, .int .i64 0, .int .i64 0, .int .i64 0] 52))
  have HZ0 := Lib.hid (Blk.new1 w (.cells #[.slice A all.length c, .int .i64 (k : Int), .int .i64 E, .int .i64 t.fe, .int .i64 t.fa, .int .i64 D] 52) 52 #[.slice none 0 0, .int .i64 0, .int .i64 0, .int .i64 0, .int .i64 0, .int .i64 0])
  have HN := Lib.hid (fun W (hb : Bel w.heap.size w W) => rnext_any A all c k E t D W h (hT.bel hb))
  unfold RP at HN
  clear h hT
  go_enter Tryd.func88, Tryd.ntmps88
  go_wp2_with (first | (go_at_call 27; refine (HN.out _ HB0.out).mono ?_; rintro e w1 ⟨k2, rfl, hi2, hb⟩; have HB1 := Lib.hid (HB0.out.next hb); have HV1 := Lib.hid (HV0.out.bel hb HV0.out.lt); have HZ1 := Lib.hid (HZ0.out.bel hb HZ0.out.lt); clear hb; have HI2 := Lib.hid hi2; clear hi2; obtain ⟨qz, ⟨q0, q1, q2, q3, q4, q5⟩, ⟨qf0, qf1, qf2, qf3, qf4, qf5⟩⟩ := HV1.out.c6; obtain ⟨zz, ⟨z0, z1, z2, z3, z4, z5⟩, ⟨zf0, zf1, zf2, zf3, zf4, zf5⟩⟩ := HZ1.out.c6))
  exact bodyPost_ret (v := rv A all.length c k2 E (nextS E t) D) (by simp [results, Tryd.results88, go_sem, z0, z1, z2, z3, z4, z5]) rfl ⟨k2, rfl, HI2.out, HB1.out.far6 (by omega)⟩

end

end
/- qtree: numbers, sel. -/
section
open Go.RowKit

/-- New blocks. -/
def Fr (w : World) (b : Nat) : Prop := w.heap.size ≤ b
/-- A selector as a value. -/
def selV (x : SelT) (pv : Value) : Value := .agg #[.int .i64 x.kind, .string (bs x.name), .int .i64 x.index, .int .i64 x.fr, .int .i64 x.tt, .int .i64 x.step, .bool x.hf, .bool x.ht, pv]
end
/- qtree: sel. -/
section
open Go.RowKit

theorem RowG.slice {α : Type} {K : Nat → Prop} {k : Nat} {R : List Value → α → Prop} {w : World} {v : Value} {l : List α} (h : RowG K k R w v l) : ∃ A c, v = .slice A l.length c := by
  obtain ⟨A, c, h1, _⟩ := h; exact ⟨A, c, h1⟩
theorem ExR.slices {K : Nat → Prop} {m : Nat} {w : World} {x : ExprT} {kv qv lv rv : Value} (h : ExR K m w (exL x kv qv lv rv) x) :
    ∃ A1 c1 A2 c2 A3 c3 A4 c4, kv = .slice A1 x.kids.length c1 ∧ qv = .slice A2 x.q.segs.length c2 ∧ lv = .slice A3 x.left.p.segs.length c3 ∧ rv = .slice A4 x.right.p.segs.length c4 := by
  cases m with
  | zero => exact h.elim
  | succ m =>
    obtain ⟨kv', qv', lv', rv', h1, h2, h3, h4, h5⟩ := h
    unfold exL at h1
    simp only [List.cons.injEq, true_and, and_true] at h1
    obtain ⟨rfl, rfl, rfl, rfl⟩ := h1
    obtain ⟨A1, c1, e1⟩ := h2.slice
    obtain ⟨A2, c2, e2⟩ := RowG.slice h3
    obtain ⟨A3, c3, e3⟩ := RowG.slice h4
    obtain ⟨A4, c4, e4⟩ := RowG.slice h5
    exact ⟨A1, c1, A2, c2, A3, c3, A4, c4, e1, e2, e3, e4⟩
theorem openS_33 {E : Int} {d : Nat} {t : PSt} (h : d = 32) : (openS E d t).fe ≠ 0 := by
  unfold openS
  rw [if_pos (by omega)]
  have h1 : (failS (atS E t) 5 t).fe ≠ 0 := by
    unfold failS; split
    · simp
    · assumption
  rw [nextS_bad h1]; exact h1
theorem is_deep {l : List UInt8} {t : PSt} {d : Nat} (h : isS l t = true) (hd : d ≤ 33) (hf : d = 33 → t.fe ≠ 0) : d ≤ 32 := by
  rcases Nat.lt_or_ge d 33 with h1 | h1
  · omega
  · exact absurd (isS_ok h).1 (hf (by omega))
theorem SelC.filter {w w1 w2 W : World} {m : Nat} {x : ExprT} {kv qv lv rv : Value} (hex : ExR (Fr w1) m w2 (exL x kv qv lv rv) x) (hk : Kp (Fr w1) (Fr w) w2 W) (hs : W.heap.size = w2.heap.size) (hwl : w.heap.size ≤ w2.heap.size) (T : TypeId) :
    SelC (Fr w) (ExR (Fr w) m (W.alloc (.cells (exL x kv qv lv rv).toArray T))) (W.alloc (.cells (exL x kv qv lv rv).toArray T)) (selL ⟨4, [], 0, 0, 0, 0, false, false, some x⟩ (.pointer (some ⟨w2.heap.size, 0, none⟩))) ⟨4, [], 0, 0, 0, 0, false, false, some x⟩ := by
  have hb := Blk.new W T (exL x kv qv lv rv).toArray
  rw [hs] at hb
  refine ⟨_, rfl, w2.heap.size, 0, exL x kv qv lv rv, rfl, hwl, hb.lt, rfl, fun j u hu => ?_, ?_⟩
  · rw [Nat.zero_add, hb.cell j]; simpa using hu
  · exact ExR.keep (hk.trans ((Kp.id_ (fun b hb _ => hb)).alloc _)) m m (Nat.le_refl _) _ _ hex
theorem ite_tt {α : Type} {c : Bool} {a b : α} (h : c = true) : (if c = true then a else b) = a := if_pos h
theorem ite_ff {α : Type} {c : Bool} {a b : α} (h : c = false) : (if c = true then a else b) = b := if_neg (by rw [h]; decide)

end

end Go.Proofs.YtpcbcodmocmilaaDoor
