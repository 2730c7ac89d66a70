/- qtree: and, or, over their list (printed by gen_list.py). -/
import Derived.Test.YtmopeandckmgcaaDoorQk
namespace Go.Proofs.YtmopeandckmgcaaDoor
open Go.RowKit


set_option maxRecDepth 100000 in
set_option maxHeartbeats 4000000 in
theorem and_of (g : Nat) (E : Int) (F : PSt → ExprT × PSt) (d : Nat) (hd : d ≤ 33) (hLF : ∀ t, (F t).2.toks.length ≤ t.toks.length) (hBF : ∀ t, t.fe ≠ 0 → (F t).2 = t)
    (hF : ∀ t w, RdS g E w t d → (d = 33 → t.fe ≠ 0) → Calls Tryd.prog 84 #[.pointer (some ⟨g, 0, none⟩)] w (ExP g E w (F t) d)) (t : PSt) (w : World) (h : RdS g E w t d) (hf : d = 33 → t.fe ≠ 0) :
    Calls Tryd.prog 81 #[.pointer (some ⟨g, 0, none⟩)] w (ExP g E w (listF E [38, 38] 1 F t) d) := by
  have hg := h.lt
  have HR0 := Lib.hid (h.alloc (.cells E0 69))
  have HX0 := Lib.hid (show Ex g w (w.alloc (.cells E0 69)) from (Ex.refl g w).alloc _)
  have HB0 := Lib.hid (Blk.new w 69 E0)
  have HL := Lib.hid (list_one g E F ⟨#[38, 38]⟩ 1 d hd hLF hBF hF t _ HR0.out hf)
  unfold E0 at HR0 HX0 HB0 HL
  have hmf : ∀ (fn : Fn) (first cap : Array Value) (w : World), (Instr.makeFunc fn first cap).run Tryd.prog w = .ok (.func fn first cap) w := fun _ _ _ _ => rfl
  obtain ⟨x, t1, hx1⟩ : ∃ x t1, listF E [38, 38] 1 F t = (x, t1) := ⟨_, _, rfl⟩
  have hx1' : listF E (⟨#[38, 38]⟩ : ByteArray).data.toList 1 F t = (x, t1) := hx1
  rw [hx1'] at HL
  rw [hx1]
  unfold ExP at HL
  simp only at HL
  clear h hf hF hLF hBF hx1 hx1'
  go_enter Tryd.func81, Tryd.ntmps81
  generalize hQ : bodyPost Tryd.prog Tryd.f81 (ExP g E w (x, t1) d) = Q
  have HQ := Lib.hid hQ; clear hQ
  go_wp2_with fail
  refine HL.out.mono ?_
  rintro e w1 ⟨m, kv, qv, lv, rv, rfl, hex, hr, hx⟩
  obtain ⟨A1, q1, A2, q2, A3, q3, A4, q4, rfl, rfl, rfl, rfl⟩ := hex.slices
  have HE1 := Lib.hid hex
  have HR1 := Lib.hid hr
  have HX1 := Lib.hid (HX0.out.trans hx)
  have HB1 := HB0.out.ex hx (by omega)
  obtain ⟨z, ⟨d0, d1, d2, d3, d4, d5, d6, d7, d8, d9, d10, d11, d12, d13, d14, d15, d16⟩, ⟨f0, f1, f2, f3, f4, f5, f6, f7, f8, f9, f10, f11, f12, f13, f14, f15, f16⟩⟩ := HB1.c17
  unfold exV
  clear hex hr hx HL HB0 HX0 HR0
  go_wp2
  rw [← HQ.out]
  have hkp : Kp (Fr (w.alloc (.cells E0 69))) (Fr w) w1 w1 := Kp.id_ fun b hb _ => (show w.heap.size ≤ b by have := hb.al; omega)
  exact bodyPost_ret (v := exV x (.slice A1 x.kids.length q1) (.slice A2 x.q.segs.length q2) (.slice A3 x.left.p.segs.length q3) (.slice A4 x.right.p.segs.length q4)) (results_cell_row (by rfl) _ _ w.heap.size _ _ _ _ (by rfl) (show Blk _ w.heap.size 69 _ from HB1.put17) Tryd.underlying69 (by rfl) (by kernel_rfl)) rfl ⟨_, _, _, _, _, rfl, REx_ok.keep HE1.out (hkp.far17 (fun b hb _ => by have := hb.al; omega)) (Nat.le_refl _), HR1.out.far17 hg, HX1.out.far17 (Nat.le_refl _)⟩

set_option maxRecDepth 100000 in
set_option maxHeartbeats 4000000 in
theorem or_of (g : Nat) (E : Int) (F : PSt → ExprT × PSt) (d : Nat) (hd : d ≤ 33) (hLF : ∀ t, (F t).2.toks.length ≤ t.toks.length) (hBF : ∀ t, t.fe ≠ 0 → (F t).2 = t)
    (hF : ∀ t w, RdS g E w t d → (d = 33 → t.fe ≠ 0) → Calls Tryd.prog 81 #[.pointer (some ⟨g, 0, none⟩)] w (ExP g E w (F t) d)) (t : PSt) (w : World) (h : RdS g E w t d) (hf : d = 33 → t.fe ≠ 0) :
    Calls Tryd.prog 72 #[.pointer (some ⟨g, 0, none⟩)] w (ExP g E w (listF E [124, 124] 0 F t) d) := by
  have hg := h.lt
  have HR0 := Lib.hid (h.alloc (.cells E0 69))
  have HX0 := Lib.hid (show Ex g w (w.alloc (.cells E0 69)) from (Ex.refl g w).alloc _)
  have HB0 := Lib.hid (Blk.new w 69 E0)
  have HL := Lib.hid (list_and g E F ⟨#[124, 124]⟩ 0 d hd hLF hBF hF t _ HR0.out hf)
  unfold E0 at HR0 HX0 HB0 HL
  have hmf : ∀ (fn : Fn) (first cap : Array Value) (w : World), (Instr.makeFunc fn first cap).run Tryd.prog w = .ok (.func fn first cap) w := fun _ _ _ _ => rfl
  obtain ⟨x, t1, hx1⟩ : ∃ x t1, listF E [124, 124] 0 F t = (x, t1) := ⟨_, _, rfl⟩
  have hx1' : listF E (⟨#[124, 124]⟩ : ByteArray).data.toList 0 F t = (x, t1) := hx1
  rw [hx1'] at HL
  rw [hx1]
  unfold ExP at HL
  simp only at HL
  clear h hf hF hLF hBF hx1 hx1'
  go_enter Tryd.func72, Tryd.ntmps72
  generalize hQ : bodyPost Tryd.prog Tryd.f72 (ExP g E w (x, t1) d) = Q
  have HQ := Lib.hid hQ; clear hQ
  go_wp2_with fail
  refine HL.out.mono ?_
  rintro e w1 ⟨m, kv, qv, lv, rv, rfl, hex, hr, hx⟩
  obtain ⟨A1, q1, A2, q2, A3, q3, A4, q4, rfl, rfl, rfl, rfl⟩ := hex.slices
  have HE1 := Lib.hid hex
  have HR1 := Lib.hid hr
  have HX1 := Lib.hid (HX0.out.trans hx)
  have HB1 := HB0.out.ex hx (by omega)
  obtain ⟨z, ⟨d0, d1, d2, d3, d4, d5, d6, d7, d8, d9, d10, d11, d12, d13, d14, d15, d16⟩, ⟨f0, f1, f2, f3, f4, f5, f6, f7, f8, f9, f10, f11, f12, f13, f14, f15, f16⟩⟩ := HB1.c17
  unfold exV
  clear hex hr hx HL HB0 HX0 HR0
  go_wp2
  rw [← HQ.out]
  have hkp : Kp (Fr (w.alloc (.cells E0 69))) (Fr w) w1 w1 := Kp.id_ fun b hb _ => (show w.heap.size ≤ b by have := hb.al; omega)
  exact bodyPost_ret (v := exV x (.slice A1 x.kids.length q1) (.slice A2 x.q.segs.length q2) (.slice A3 x.left.p.segs.length q3) (.slice A4 x.right.p.segs.length q4)) (results_cell_row (by rfl) _ _ w.heap.size _ _ _ _ (by rfl) (show Blk _ w.heap.size 69 _ from HB1.put17) Tryd.underlying69 (by rfl) (by kernel_rfl)) rfl ⟨_, _, _, _, _, rfl, REx_ok.keep HE1.out (hkp.far17 (fun b hb _ => by have := hb.al; omega)) (Nat.le_refl _), HR1.out.far17 hg, HX1.out.far17 (Nat.le_refl _)⟩

end Go.Proofs.YtmopeandckmgcaaDoor
