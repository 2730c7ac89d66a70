/- G38: Ql, Qy joined. -/
import Derived.Test.YtpcbcodmocmilaaDoorG37
import Derived.Test.YtpcbcodmocmilaaDoorQx
namespace Go.Proofs.YtpcbcodmocmilaaDoor
open Go.RowKit
/- qtree: and, or, over their list (printed by gen_list.py). -/
section
open Go.RowKit


set_option maxRecDepth 100000 in
set_option maxHeartbeats 4000000 in
theorem and_of (g : Nat) (E : Int) (F : PSt → ExprT × PSt) (d : Nat) (hd : d ≤ 33) (hLF : ∀ t, (F t).2.toks.length ≤ t.toks.length) (hBF : ∀ t, t.fe ≠ 0 → (F t).2 = t)
    (hF : ∀ t w, RdS g E w t d → (d = 33 → t.fe ≠ 0) → Calls Tryd.prog 147 #[.pointer (some ⟨g, 0, none⟩)] w (ExP g E w (F t) d)) (t : PSt) (w : World) (h : RdS g E w t d) (hf : d = 33 → t.fe ≠ 0) :
    Calls Tryd.prog 140 #[.pointer (some ⟨g, 0, none⟩)] w (ExP g E w (listF E [38, 38] 1 F t) d) := by
  have hg := h.lt
  have HR0 := Lib.hid (h.alloc (.cells E0 97))
  have HX0 := Lib.hid (show Ex g w (w.alloc (.cells E0 97)) from (Ex.refl g w).alloc _)
  have HB0 := Lib.hid (Blk.new w 97 E0)
  have HL := Lib.hid (list_one g E F ⟨#[38, 38]⟩ 1 d hd hLF hBF hF t _ HR0.out hf)
  unfold E0 at HR0 HX0 HB0 HL
  have hmf : ∀ (fn : Fn) (first cap : Array Value) (w : World), (Instr.makeFunc fn first cap).run Tryd.prog w = .ok (.func fn first cap) w := fun _ _ _ _ => rfl
  obtain ⟨x, t1, hx1⟩ : ∃ x t1, listF E [38, 38] 1 F t = (x, t1) := ⟨_, _, rfl⟩
  have hx1' : listF E (⟨#[38, 38]⟩ : ByteArray).data.toList 1 F t = (x, t1) := hx1
  rw [hx1'] at HL
  rw [hx1]
  unfold ExP at HL
  simp only at HL
  clear h hf hF hLF hBF hx1 hx1'
  go_enter Tryd.func140, Tryd.ntmps140
  generalize hQ : bodyPost Tryd.prog Tryd.f140 (ExP g E w (x, t1) d) = Q
  have HQ := Lib.hid hQ; clear hQ
  go_wp2_with fail
  refine HL.out.mono ?_
  rintro e w1 ⟨m, kv, qv, lv, rv, rfl, hex, hr, hx⟩
  obtain ⟨A1, q1, A2, q2, A3, q3, A4, q4, rfl, rfl, rfl, rfl⟩ := hex.slices
  have HE1 := Lib.hid hex
  have HR1 := Lib.hid hr
  have HX1 := Lib.hid (HX0.out.trans hx)
  have HB1 := HB0.out.ex hx (by omega)
  obtain ⟨z, ⟨d0, d1, d2, d3, d4, d5, d6, d7, d8, d9, d10, d11, d12, d13, d14, d15, d16⟩, ⟨f0, f1, f2, f3, f4, f5, f6, f7, f8, f9, f10, f11, f12, f13, f14, f15, f16⟩⟩ := HB1.c17
  unfold exV
  clear hex hr hx HL HB0 HX0 HR0
  go_wp2
  rw [← HQ.out]
  have hkp : Kp (Fr (w.alloc (.cells E0 97))) (Fr w) w1 w1 := Kp.id_ fun b hb _ => (show w.heap.size ≤ b by have := hb.al; omega)
  exact bodyPost_ret (v := exV x (.slice A1 x.kids.length q1) (.slice A2 x.q.segs.length q2) (.slice A3 x.left.p.segs.length q3) (.slice A4 x.right.p.segs.length q4)) (results_cell_row (by rfl) _ _ w.heap.size _ _ _ _ (by rfl) (show Blk _ w.heap.size 97 _ from HB1.put17) Tryd.underlying97 (by rfl) (by kernel_rfl)) rfl ⟨_, _, _, _, _, rfl, REx_ok.keep HE1.out (hkp.far17 (fun b hb _ => by have := hb.al; omega)) (Nat.le_refl _), HR1.out.far17 hg, HX1.out.far17 (Nat.le_refl _)⟩

set_option maxRecDepth 100000 in
set_option maxHeartbeats 4000000 in
theorem or_of (g : Nat) (E : Int) (F : PSt → ExprT × PSt) (d : Nat) (hd : d ≤ 33) (hLF : ∀ t, (F t).2.toks.length ≤ t.toks.length) (hBF : ∀ t, t.fe ≠ 0 → (F t).2 = t)
    (hF : ∀ t w, RdS g E w t d → (d = 33 → t.fe ≠ 0) → Calls Tryd.prog 140 #[.pointer (some ⟨g, 0, none⟩)] w (ExP g E w (F t) d)) (t : PSt) (w : World) (h : RdS g E w t d) (hf : d = 33 → t.fe ≠ 0) :
    Calls Tryd.prog 126 #[.pointer (some ⟨g, 0, none⟩)] w (ExP g E w (listF E [124, 124] 0 F t) d) := by
  have hg := h.lt
  have HR0 := Lib.hid (h.alloc (.cells E0 97))
  have HX0 := Lib.hid (show Ex g w (w.alloc (.cells E0 97)) from (Ex.refl g w).alloc _)
  have HB0 := Lib.hid (Blk.new w 97 E0)
  have HL := Lib.hid (list_and g E F ⟨#[124, 124]⟩ 0 d hd hLF hBF hF t _ HR0.out hf)
  unfold E0 at HR0 HX0 HB0 HL
  have hmf : ∀ (fn : Fn) (first cap : Array Value) (w : World), (Instr.makeFunc fn first cap).run Tryd.prog w = .ok (.func fn first cap) w := fun _ _ _ _ => rfl
  obtain ⟨x, t1, hx1⟩ : ∃ x t1, listF E [124, 124] 0 F t = (x, t1) := ⟨_, _, rfl⟩
  have hx1' : listF E (⟨#[124, 124]⟩ : ByteArray).data.toList 0 F t = (x, t1) := hx1
  rw [hx1'] at HL
  rw [hx1]
  unfold ExP at HL
  simp only at HL
  clear h hf hF hLF hBF hx1 hx1'
  go_enter Tryd.func126, Tryd.ntmps126
  generalize hQ : bodyPost Tryd.prog Tryd.f126 (ExP g E w (x, t1) d) = Q
  have HQ := Lib.hid hQ; clear hQ
  go_wp2_with fail
  refine HL.out.mono ?_
  rintro e w1 ⟨m, kv, qv, lv, rv, rfl, hex, hr, hx⟩
  obtain ⟨A1, q1, A2, q2, A3, q3, A4, q4, rfl, rfl, rfl, rfl⟩ := hex.slices
  have HE1 := Lib.hid hex
  have HR1 := Lib.hid hr
  have HX1 := Lib.hid (HX0.out.trans hx)
  have HB1 := HB0.out.ex hx (by omega)
  obtain ⟨z, ⟨d0, d1, d2, d3, d4, d5, d6, d7, d8, d9, d10, d11, d12, d13, d14, d15, d16⟩, ⟨f0, f1, f2, f3, f4, f5, f6, f7, f8, f9, f10, f11, f12, f13, f14, f15, f16⟩⟩ := HB1.c17
  unfold exV
  clear hex hr hx HL HB0 HX0 HR0
  go_wp2
  rw [← HQ.out]
  have hkp : Kp (Fr (w.alloc (.cells E0 97))) (Fr w) w1 w1 := Kp.id_ fun b hb _ => (show w.heap.size ≤ b by have := hb.al; omega)
  exact bodyPost_ret (v := exV x (.slice A1 x.kids.length q1) (.slice A2 x.q.segs.length q2) (.slice A3 x.left.p.segs.length q3) (.slice A4 x.right.p.segs.length q4)) (results_cell_row (by rfl) _ _ w.heap.size _ _ _ _ (by rfl) (show Blk _ w.heap.size 97 _ from HB1.put17) Tryd.underlying97 (by rfl) (by kernel_rfl)) rfl ⟨_, _, _, _, _, rfl, REx_ok.keep HE1.out (hkp.far17 (fun b hb _ => by have := hb.al; omega)) (Nat.le_refl _), HR1.out.far17 hg, HX1.out.far17 (Nat.le_refl _)⟩

end
/- qtree: expressions, all of them (or, by induction on the levels). -/
section
open Go.RowKit

theorem qone_any (g : Nat) (E : Int) (P : Nat → PSt → ExprT × PSt) (hL : LeP P) (N : Nat) (hP : OrC g E P N) (t : PSt) (d : Nat) (w : World) (h : RdS g E w t d) (hN : N ≤ d + 1) (hd : d ≤ 33) (hf : d = 33 → t.fe ≠ 0) :
    Calls Tryd.prog 147 #[.pointer (some ⟨g, 0, none⟩)] w (ExP g E w (oneF true E P d t) d) := by
  cases h33 : isS [33] t with
  | true =>
    have hd32 := is_deep h33 hd hf
    have hne : d = 32 → (openS E d t).fe ≠ 0 := fun e => openS_33 e
    unfold oneF
    rw [ite_tt h33]
    cases h40 : isS [40] (openS E d t) with
    | true =>
      have hd31 : d + 1 ≤ 32 := by
        rcases Nat.lt_or_ge d 32 with h1 | h1
        · omega
        · exact absurd (isS_ok h40).1 (hne (by omega))
      unfold notF
      rw [ite_tt h40]
      exact not_a g E t d w h hd32 _ _ (fun w hr => round_any g E P N hP (openS E d t) (d + 1) w hr (by omega) hd31) h33 h40
    | false =>
      have hk : notF true E P (d + 1) (openS E d t) = (mkE 2 [(testF E P (d + 1) (openS E d t)).1], (testF E P (d + 1) (openS E d t)).2) := by
        unfold notF testF
        rw [ite_ff h40]
        cases isPath (openS E d t) <;> rfl
      rw [hk]
      exact not_b g E t d w h hd32 _ _ (fun w hr => test_any g E P (openS E d t) (d + 1) w hr (fun w hr => path_any g E P hL N hP (openS E d t) (d + 1) w hr (by omega) (by omega) (fun e => hne (by omega)))) h33 h40
  | false =>
    cases h40 : isS [40] t with
    | true =>
      have hd32 := is_deep h40 hd hf
      have hk : oneF true E P d t = roundF E P d t := by unfold oneF; rw [ite_ff h33, ite_tt h40]
      rw [hk]
      exact one_round g E t d w h _ (fun w hr => round_any g E P N hP t d w hr hN hd32) h33 h40
    | false =>
      have hk : oneF true E P d t = cmpF E P d t := by unfold oneF; rw [ite_ff h33, ite_ff h40]
      rw [hk]
      exact one_cmp g E t d w h _ (fun w hr => cmp_any g E P t d w hr hL (fun t w hr hf => side_any g E P t d w hr (fun w hr => path_any g E P hL N hP t d w hr hN hd hf)) hf) h33 h40
theorem orC_succ (g : Nat) (E : Int) (P : Nat → PSt → ExprT × PSt) (hL : LeP P) (N : Nat) (hP : OrC g E P (N + 1)) : OrC g E (orF true E P) N := by
  intro d t w h hd hf hN
  exact or_of g E (andF true E P d) d hd (fun t => andF_le hL d t) (fun t h => andF_bad true t h)
    (fun t w h hf => and_of g E (oneF true E P d) d hd (fun t => oneF_le hL d true t) (fun t h => oneF_bad true h)
      (fun t w h hf => qone_any g E P hL (N + 1) hP t d w h (by omega) hd hf) t w h hf) t w h hf
theorem orC_all (g : Nat) (E : Int) : ∀ n, n ≤ 34 → OrC g E (orS true E n) (34 - n)
  | 0, _ => fun d _ _ _ hd _ hN => absurd hN (by omega)
  | n + 1, hn => by
    have h := orC_all g E n (by omega)
    rw [show 34 - n = 34 - (n + 1) + 1 by omega] at h
    exact orC_succ g E (orS true E n) (orS_le true E n) (34 - (n + 1)) h
/-- The program's reader of paths. -/
theorem path_all (g : Nat) (E : Int) (t : PSt) (w : World) (h : RdS g E w t 0) :
    Calls Tryd.prog 37 #[.pointer (some ⟨g, 0, none⟩)] w (PathP g E w (pathF E (orS true E 34) 0 t) 0) :=
  path_any g E (orS true E 34) (orS_le true E 34) 0 (orC_all g E 34 (Nat.le_refl _)) t 0 w h (by omega) (by omega) (fun e => absurd e (by omega))

end

end Go.Proofs.YtpcbcodmocmilaaDoor
