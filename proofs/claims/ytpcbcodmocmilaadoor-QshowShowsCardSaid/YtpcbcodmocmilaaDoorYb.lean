/- ref17: form, next, must, open, shut, number (printed by gen_rb.py). -/
import Derived.Test.YtpcbcodmocmilaaDoorG08
namespace Go.Proofs.YtpcbcodmocmilaaDoor
open Go.RowKit

theorem Blk.drew {w : World} {k : Nat} {T : TypeId} {cs : Array Value} (h : Blk w k T cs) : Blk w.drew k T cs := h
theorem Bel.far6 {B : Nat} {a w : World} (h : Bel B a w) {k : Nat} (hk : B ≤ k) {u0 u1 u2 u3 u4 u5 : Value} : Bel B a ((((((w.setCell ⟨k, 0, none⟩ u0).setCell ⟨k, 1, none⟩ u1).setCell ⟨k, 2, none⟩ u2).setCell ⟨k, 3, none⟩ u3).setCell ⟨k, 4, none⟩ u4).setCell ⟨k, 5, none⟩ u5) :=
  (((((h.setCell hk u0).setCell hk u1).setCell hk u2).setCell hk u3).setCell hk u4).setCell hk u5
theorem cell_far6 {w : World} {b o : Nat} {v : Value} (h : w.cell? ⟨b, o, none⟩ = some v) {k : Nat} (hk : b ≠ k) {u0 u1 u2 u3 u4 u5 : Value} : ((((((w.setCell ⟨k, 0, none⟩ u0).setCell ⟨k, 1, none⟩ u1).setCell ⟨k, 2, none⟩ u2).setCell ⟨k, 3, none⟩ u3).setCell ⟨k, 4, none⟩ u4).setCell ⟨k, 5, none⟩ u5).cell? ⟨b, o, none⟩ = some v := by
  have s : ∀ (x : World) (i : Nat) (u : Value), (x.setCell ⟨k, i, none⟩ u).cell? ⟨b, o, none⟩ = x.cell? ⟨b, o, none⟩ := fun x i u => World.cell?_of_block (Below.heap_setCell x ⟨k, i, none⟩ u b hk)
  rw [s, s, s, s, s, s]; exact h
theorem RIn.fail {all : List TokD} {k : Nat} {t : PSt} (h : RIn all k t) (a e : Int) : RIn all k (failS a e t) := ⟨by rw [failS_len]; exact h.eq, h.le, h.bd⟩
theorem RIn.form {all : List TokD} {k : Nat} {t : PSt} (h : RIn all k t) (E : Int) : RIn all k (formS E t) := h.fail _ _
/-- What comes back: a reader in the state t'. -/
def RP (A : Option Addr) (all : List TokD) (c : Nat) (E dp : Int) (w : World) (t' : PSt) (e : Ending) (w' : World) : Prop :=
  ∃ k', e = .returned (rv A all.length c k' E t' dp) ∧ RIn all k' t' ∧ Bel w.heap.size w w'
section
variable (A : Option Addr) (all : List TokD) (c k : Nat) (E : Int) (t : PSt) (dp : Int) (w : World)

set_option maxRecDepth 100000 in
set_option maxHeartbeats 2000000 in
theorem rform_any (h : RIn all k t) (hT : TkR w A all) : Calls Tryd.prog 14 #[rv A all.length c k E t dp] w fun e w' => e = .returned (rv A all.length c k E (formS E t) dp) ∧ Bel w.heap.size w w' := by
  have HW := Lib.hid (((Bel.refl w.heap.size w).alloc (Nat.le_refl _) (.cells #[.slice A all.length c, .int .i64 (k : Int), .int .i64 E, .int .i64 t.fe, .int .i64 t.fa, .int .i64 dp] 52)).alloc (by simp) (.cells #[.slice none 0 0, .int .i64 0, .int .i64 0, .int .i64 0, .int .i64 0, .int .i64 0] 52))
  have HV0 := Lib.hid ((Blk.new w 52 #[.slice A all.length c, .int .i64 (k : Int), .int .i64 E, .int .i64 t.fe, .int .i64 t.fa, .int .i64 dp]).alloc (.cells #[.slice none 0 0, .int .i64 0, .int .i64 0, .int .i64 0, .int .i64 0, .int .i64 0] 52))
  have HZ0 := Lib.hid (Blk.new1 w (.cells #[.slice A all.length c, .int .i64 (k : Int), .int .i64 E, .int .i64 t.fe, .int .i64 t.fa, .int .i64 dp] 52) 52 #[.slice none 0 0, .int .i64 0, .int .i64 0, .int .i64 0, .int .i64 0, .int .i64 0])
  have HAT := Lib.hid (fun W (hb : Bel w.heap.size w W) => rat_any A all c k E t dp W h (hT.bel hb))
  have HFL := Lib.hid (fun W => rfail_any A all c k E t dp W (atS E t) 3)
  clear h hT
  go_enter Tryd.func14, Tryd.ntmps14
  go_wp2_with fail
  go_region_with (first | (go_at_call 26; refine (HAT.out _ ?_).mono ?_; (first | exact HW.out | exact HW.out.drew | exact HW.out.drew.drew); rintro e w1 ⟨rfl, hb⟩; have HB1 := Lib.hid (show Bel w.heap.size w w1 by (first | exact HW.out.next hb | exact HW.out.drew.next hb | exact HW.out.drew.drew.next hb)); have HV1 := Lib.hid (show Blk w1 w.heap.size 52 #[.slice A all.length c, .int .i64 (k : Int), .int .i64 E, .int .i64 t.fe, .int .i64 t.fa, .int .i64 dp] by (first | exact HV0.out.bel hb HV0.out.lt | exact HV0.out.drew.bel hb HV0.out.lt | exact HV0.out.drew.drew.bel hb HV0.out.lt)); have HZ1 := Lib.hid (show Blk w1 (w.heap.size + 1) 52 #[.slice none 0 0, .int .i64 0, .int .i64 0, .int .i64 0, .int .i64 0, .int .i64 0] by (first | exact HZ0.out.bel hb HZ0.out.lt | exact HZ0.out.drew.bel hb HZ0.out.lt | exact HZ0.out.drew.drew.bel hb HZ0.out.lt)); clear hb; obtain ⟨qz, ⟨q0, q1, q2, q3, q4, q5⟩, ⟨qf0, qf1, qf2, qf3, qf4, qf5⟩⟩ := HV1.out.c6; obtain ⟨zz, ⟨z0, z1, z2, z3, z4, z5⟩, ⟨zf0, zf1, zf2, zf3, zf4, zf5⟩⟩ := HZ1.out.c6) | (go_at_call 25; refine (HFL.out _).mono ?_; rintro e w2 ⟨rfl, hb⟩; have HB2 := Lib.hid (show Bel w.heap.size w w2 by (first | exact HB1.out.next hb | exact HB1.out.drew.next hb | exact HB1.out.drew.drew.next hb)); have HV2 := Lib.hid (show Blk w2 w.heap.size 52 #[.slice A all.length c, .int .i64 (k : Int), .int .i64 E, .int .i64 t.fe, .int .i64 t.fa, .int .i64 dp] by (first | exact HV1.out.bel hb HV1.out.lt | exact HV1.out.drew.bel hb HV1.out.lt | exact HV1.out.drew.drew.bel hb HV1.out.lt)); have HZ2 := Lib.hid (show Blk w2 (w.heap.size + 1) 52 #[.slice none 0 0, .int .i64 0, .int .i64 0, .int .i64 0, .int .i64 0, .int .i64 0] by (first | exact HZ1.out.bel hb HZ1.out.lt | exact HZ1.out.drew.bel hb HZ1.out.lt | exact HZ1.out.drew.drew.bel hb HZ1.out.lt)); clear hb; clear qz q0 q1 q2 q3 q4 q5 qf0 qf1 qf2 qf3 qf4 qf5; clear zz z0 z1 z2 z3 z4 z5 zf0 zf1 zf2 zf3 zf4 zf5; obtain ⟨qz, ⟨q0, q1, q2, q3, q4, q5⟩, ⟨qf0, qf1, qf2, qf3, qf4, qf5⟩⟩ := HV2.out.c6; obtain ⟨zz, ⟨z0, z1, z2, z3, z4, z5⟩, ⟨zf0, zf1, zf2, zf3, zf4, zf5⟩⟩ := HZ2.out.c6))
  all_goals
    go_wp2
    exact bodyPost_ret (v := rv A all.length c k E (failS (atS E t) 3 t) dp) (by simp [results, Tryd.results14, go_sem, z0, z1, z2, z3, z4, z5]) rfl ⟨rfl, HB2.out.far6 (by omega)⟩

set_option maxRecDepth 100000 in
set_option maxHeartbeats 2000000 in
theorem rnext_any (h : RIn all k t) (hT : TkR w A all) : Calls Tryd.prog 27 #[rv A all.length c k E t dp] w (RP A all c E dp w (nextS E t)) := by
  have HB0 := Lib.hid (((Bel.refl w.heap.size w).alloc (Nat.le_refl _) (.cells #[.slice A all.length c, .int .i64 (k : Int), .int .i64 E, .int .i64 t.fe, .int .i64 t.fa, .int .i64 dp] 52)).alloc (by simp) (.cells #[.slice none 0 0, .int .i64 0, .int .i64 0, .int .i64 0, .int .i64 0, .int .i64 0] 52))
  have HV0 := Lib.hid ((Blk.new w 52 #[.slice A all.length c, .int .i64 (k : Int), .int .i64 E, .int .i64 t.fe, .int .i64 t.fa, .int .i64 dp]).alloc (.cells #[.slice none 0 0, .int .i64 0, .int .i64 0, .int .i64 0, .int .i64 0, .int .i64 0] 52))
  have HZ0 := Lib.hid (Blk.new1 w (.cells #[.slice A all.length c, .int .i64 (k : Int), .int .i64 E, .int .i64 t.fe, .int .i64 t.fa, .int .i64 dp] 52) 52 #[.slice none 0 0, .int .i64 0, .int .i64 0, .int .i64 0, .int .i64 0, .int .i64 0])
  have HO := Lib.hid (rover_any A all c k E t dp ((w.alloc (.cells #[.slice A all.length c, .int .i64 (k : Int), .int .i64 E, .int .i64 t.fe, .int .i64 t.fa, .int .i64 dp] 52)).alloc (.cells #[.slice none 0 0, .int .i64 0, .int .i64 0, .int .i64 0, .int .i64 0, .int .i64 0] 52)) h)
  cases ho : ovS t with
  | true =>
    rw [ho] at HO
    have HF := Lib.hid (fun W (hb : Bel w.heap.size w W) => rform_any A all c k E t dp W h (hT.bel hb))
    have HE := Lib.hid (nextS_ov (E := E) ho).1
    have HI := Lib.hid (h.form E)
    clear ho h hT
    go_enter Tryd.func27, Tryd.ntmps27
    go_wp2_with (first | (go_at_call 16; refine (HO.out).mono ?_; rintro e w1 ⟨rfl, hb⟩; have HB1 := Lib.hid (HB0.out.next hb); have HV1 := Lib.hid (HV0.out.bel hb HV0.out.lt); have HZ1 := Lib.hid (HZ0.out.bel hb HZ0.out.lt); clear hb; obtain ⟨qz, ⟨q0, q1, q2, q3, q4, q5⟩, ⟨qf0, qf1, qf2, qf3, qf4, qf5⟩⟩ := HV1.out.c6; obtain ⟨zz, ⟨z0, z1, z2, z3, z4, z5⟩, ⟨zf0, zf1, zf2, zf3, zf4, zf5⟩⟩ := HZ1.out.c6) | (go_at_call 14; refine (HF.out _ HB1.out).mono ?_; rintro e w2 ⟨rfl, hb⟩; have HB2 := Lib.hid (HB1.out.next hb); have HV2 := Lib.hid (HV1.out.bel hb HV1.out.lt); have HZ2 := Lib.hid (HZ1.out.bel hb HZ1.out.lt); clear hb; clear qz q0 q1 q2 q3 q4 q5 qf0 qf1 qf2 qf3 qf4 qf5; clear zz z0 z1 z2 z3 z4 z5 zf0 zf1 zf2 zf3 zf4 zf5; obtain ⟨qz, ⟨q0, q1, q2, q3, q4, q5⟩, ⟨qf0, qf1, qf2, qf3, qf4, qf5⟩⟩ := HV2.out.c6; obtain ⟨zz, ⟨z0, z1, z2, z3, z4, z5⟩, ⟨zf0, zf1, zf2, zf3, zf4, zf5⟩⟩ := HZ2.out.c6))
    rw [HE.out]
    exact bodyPost_ret (v := rv A all.length c k E (formS E t) dp) (by simp [results, Tryd.results27, go_sem, z0, z1, z2, z3, z4, z5]) rfl ⟨k, rfl, HI.out, HB2.out.far6 (by omega)⟩
  | false =>
    rw [ho] at HO
    obtain ⟨hlt, hf⟩ := h.ov_no ho
    obtain ⟨x, hx, ht⟩ := h.head hlt
    obtain ⟨toks, fe, fa⟩ := t
    simp only at hf ht
    have HE := Lib.hid (show nextS E ⟨toks, fe, fa⟩ = ⟨all.drop (k + 1), fe, fa⟩ by unfold nextS; simp only; rw [if_pos hf, ht])
    have HI := Lib.hid (show RIn all (k + 1) ⟨all.drop (k + 1), fe, fa⟩ from ⟨rfl, by omega, h.bd⟩)
    have hbd := h.bd
    clear ho h hT hf ht hx
    go_enter Tryd.func27, Tryd.ntmps27
    go_wp2_with (first | (go_at_call 16; refine (HO.out).mono ?_; rintro e w1 ⟨rfl, hb⟩; have HB1 := Lib.hid (HB0.out.next hb); have HV1 := Lib.hid (HV0.out.bel hb HV0.out.lt); have HZ1 := Lib.hid (HZ0.out.bel hb HZ0.out.lt); clear hb; obtain ⟨qz, ⟨q0, q1, q2, q3, q4, q5⟩, ⟨qf0, qf1, qf2, qf3, qf4, qf5⟩⟩ := HV1.out.c6; obtain ⟨zz, ⟨z0, z1, z2, z3, z4, z5⟩, ⟨zf0, zf1, zf2, zf3, zf4, zf5⟩⟩ := HZ1.out.c6))
    rw [HE.out]
    exact bodyPost_ret (v := rv A all.length c (k + 1) E ⟨all.drop (k + 1), fe, fa⟩ dp) (by simp [results, Tryd.results27, go_sem, z0, z1, z2, z3, z4, z5]) rfl ⟨k + 1, rfl, HI.out, (HB1.out.setCell (p := ⟨w.heap.size, 1, none⟩) (Nat.le_refl _) _).far6 (by omega)⟩

set_option maxRecDepth 100000 in
set_option maxHeartbeats 2000000 in
theorem rmust_any (s : ByteArray) (h : RIn all k t) (hT : TkR w A all) : Calls Tryd.prog 64 #[rv A all.length c k E t dp, .string s] w (RP A all c E dp w (mustS E s.data.toList t)) := by
  have HB0 := Lib.hid (((Bel.refl w.heap.size w).alloc (Nat.le_refl _) (.cells #[.slice A all.length c, .int .i64 (k : Int), .int .i64 E, .int .i64 t.fe, .int .i64 t.fa, .int .i64 dp] 52)).alloc (by simp) (.cells #[.slice none 0 0, .int .i64 0, .int .i64 0, .int .i64 0, .int .i64 0, .int .i64 0] 52))
  have HV0 := Lib.hid ((Blk.new w 52 #[.slice A all.length c, .int .i64 (k : Int), .int .i64 E, .int .i64 t.fe, .int .i64 t.fa, .int .i64 dp]).alloc (.cells #[.slice none 0 0, .int .i64 0, .int .i64 0, .int .i64 0, .int .i64 0, .int .i64 0] 52))
  have HZ0 := Lib.hid (Blk.new1 w (.cells #[.slice A all.length c, .int .i64 (k : Int), .int .i64 E, .int .i64 t.fe, .int .i64 t.fa, .int .i64 dp] 52) 52 #[.slice none 0 0, .int .i64 0, .int .i64 0, .int .i64 0, .int .i64 0, .int .i64 0])
  have HS := Lib.hid (ris_any A all c k E t dp ((w.alloc (.cells #[.slice A all.length c, .int .i64 (k : Int), .int .i64 E, .int .i64 t.fe, .int .i64 t.fa, .int .i64 dp] 52)).alloc (.cells #[.slice none 0 0, .int .i64 0, .int .i64 0, .int .i64 0, .int .i64 0, .int .i64 0] 52)) s h (hT.bel HB0.out))
  cases ho : isS s.data.toList t with
  | true =>
    rw [ho] at HS
    have HF := Lib.hid (fun W (hb : Bel w.heap.size w W) => rnext_any A all c k E t dp W h (hT.bel hb))
    have HE := Lib.hid (show mustS E s.data.toList t = nextS E t by unfold mustS; rw [if_pos ho])
    unfold RP at HF
    clear ho h hT
    go_enter Tryd.func64, Tryd.ntmps64
    go_wp2_with (first | (go_at_call 13; refine (HS.out).mono ?_; rintro e w1 ⟨rfl, hb⟩; have HB1 := Lib.hid (HB0.out.next hb); have HV1 := Lib.hid (HV0.out.bel hb HV0.out.lt); have HZ1 := Lib.hid (HZ0.out.bel hb HZ0.out.lt); clear hb; obtain ⟨qz, ⟨q0, q1, q2, q3, q4, q5⟩, ⟨qf0, qf1, qf2, qf3, qf4, qf5⟩⟩ := HV1.out.c6; obtain ⟨zz, ⟨z0, z1, z2, z3, z4, z5⟩, ⟨zf0, zf1, zf2, zf3, zf4, zf5⟩⟩ := HZ1.out.c6) | (go_at_call 27; refine (HF.out _ HB1.out).mono ?_; rintro e w2 ⟨k2, rfl, hi2, hb⟩; have HB2 := Lib.hid (HB1.out.next hb); have HV2 := Lib.hid (HV1.out.bel hb HV1.out.lt); have HZ2 := Lib.hid (HZ1.out.bel hb HZ1.out.lt); clear hb; have HI2 := Lib.hid hi2; clear hi2; clear qz q0 q1 q2 q3 q4 q5 qf0 qf1 qf2 qf3 qf4 qf5; clear zz z0 z1 z2 z3 z4 z5 zf0 zf1 zf2 zf3 zf4 zf5; obtain ⟨qz, ⟨q0, q1, q2, q3, q4, q5⟩, ⟨qf0, qf1, qf2, qf3, qf4, qf5⟩⟩ := HV2.out.c6; obtain ⟨zz, ⟨z0, z1, z2, z3, z4, z5⟩, ⟨zf0, zf1, zf2, zf3, zf4, zf5⟩⟩ := HZ2.out.c6))
    rw [HE.out]
    exact bodyPost_ret (v := rv A all.length c k2 E (nextS E t) dp) (by simp [results, Tryd.results64, go_sem, z0, z1, z2, z3, z4, z5]) rfl ⟨k2, rfl, HI2.out, HB2.out.far6 (by omega)⟩
  | false =>
    rw [ho] at HS
    have HF := Lib.hid (fun W (hb : Bel w.heap.size w W) => rform_any A all c k E t dp W h (hT.bel hb))
    have HE := Lib.hid (show mustS E s.data.toList t = formS E t by unfold mustS; rw [if_neg (by rw [ho]; decide)])
    have HI := Lib.hid (h.form E)
    clear ho h hT
    go_enter Tryd.func64, Tryd.ntmps64
    go_wp2_with (first | (go_at_call 13; refine (HS.out).mono ?_; rintro e w1 ⟨rfl, hb⟩; have HB1 := Lib.hid (HB0.out.next hb); have HV1 := Lib.hid (HV0.out.bel hb HV0.out.lt); have HZ1 := Lib.hid (HZ0.out.bel hb HZ0.out.lt); clear hb; obtain ⟨qz, ⟨q0, q1, q2, q3, q4, q5⟩, ⟨qf0, qf1, qf2, qf3, qf4, qf5⟩⟩ := HV1.out.c6; obtain ⟨zz, ⟨z0, z1, z2, z3, z4, z5⟩, ⟨zf0, zf1, zf2, zf3, zf4, zf5⟩⟩ := HZ1.out.c6) | (go_at_call 14; refine (HF.out _ HB1.out).mono ?_; rintro e w2 ⟨rfl, hb⟩; have HB2 := Lib.hid (HB1.out.next hb); have HV2 := Lib.hid (HV1.out.bel hb HV1.out.lt); have HZ2 := Lib.hid (HZ1.out.bel hb HZ1.out.lt); clear hb; clear qz q0 q1 q2 q3 q4 q5 qf0 qf1 qf2 qf3 qf4 qf5; clear zz z0 z1 z2 z3 z4 z5 zf0 zf1 zf2 zf3 zf4 zf5; obtain ⟨qz, ⟨q0, q1, q2, q3, q4, q5⟩, ⟨qf0, qf1, qf2, qf3, qf4, qf5⟩⟩ := HV2.out.c6; obtain ⟨zz, ⟨z0, z1, z2, z3, z4, z5⟩, ⟨zf0, zf1, zf2, zf3, zf4, zf5⟩⟩ := HZ2.out.c6))
    rw [HE.out]
    exact bodyPost_ret (v := rv A all.length c k E (formS E t) dp) (by simp [results, Tryd.results64, go_sem, z0, z1, z2, z3, z4, z5]) rfl ⟨k, rfl, HI.out, HB2.out.far6 (by omega)⟩

set_option maxRecDepth 100000 in
set_option maxHeartbeats 2000000 in
theorem rshut_any : Calls Tryd.prog 90 #[rv A all.length c k E t dp] w fun e w' => e = .returned (rv A all.length c k E t (wrap64 (dp - 1))) ∧ Bel w.heap.size w w' := by
  go_enter Tryd.func90, Tryd.ntmps90
  go_wp2
  exact bodyPost_ret (v := rv A all.length c k E t (wrap64 (dp - 1))) (by simp [results, Tryd.results90, go_sem]) rfl ⟨rfl, Bel.of (by (repeat' (first | (with_reducible exact Below.refl _ _) | (with_reducible refine Below.trans ?_ (below_drewN _ _ _)) | (with_reducible refine Below.alloc ?_ ?_ _) | (with_reducible refine Below.setCell ?_ ?_ _) | (with_reducible refine Below.drew ?_) | go_size)))⟩

end

end Go.Proofs.YtpcbcodmocmilaaDoor
