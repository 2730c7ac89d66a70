/- qtree: cmp (printed by gen_cmp2.py). -/
import Derived.Test.YtpcbcodmocmilaaGreatDoorG19
namespace Go.Proofs.YtpcbcodmocmilaaGreatDoor
open Go.RowKit

section
variable {E : Int} {P : Nat → PSt → ExprT × PSt} {d : Nat}
theorem segsL_len : ∀ (f : Nat) (t : PSt), (segsL E P d f t).1.length ≤ f
  | 0, _ => Nat.le_refl _
  | f + 1, t => by
    rw [segsL]
    split
    · simp only [List.length_cons]
      have := segsL_len f (segF E P d t).2
      omega
    · exact Nat.zero_le _
theorem pathF_len (t : PSt) : (pathF E P d t).1.segs.length ≤ t.toks.length :=
  Nat.le_trans (segsL_len _ _) (nextS_le E t)
theorem litS_len {t : PSt} {x : SideT} (h : litS t = some x) : x.p.segs.length = 0 := by
  unfold litS at h
  (repeat' split at h) <;> first | (cases h; rfl) | cases h
theorem sideF_len (t : PSt) : (sideF E P d t).1.p.segs.length ≤ t.toks.length := by
  unfold sideF
  split
  · exact pathF_len t
  · cases h : litS t with
    | none => exact Nat.zero_le _
    | some x => simp only; rw [litS_len h]; exact Nat.zero_le _
end
theorem ExR.cmp {K : Nat → Prop} {m : Nat} {w : World} {o : Int} {a b : SideT} {lv rv : Value} (h1 : SegsG K (ExR K m w) w lv a.p.segs) (h2 : SegsG K (ExR K m w) w rv b.p.segs) :
    ExR K (m + 1) w (exL ⟨4, [], path0, o, a, b⟩ (.slice none 0 0) (.slice none 0 0) lv rv) ⟨4, [], path0, o, a, b⟩ :=
  ⟨_, _, _, _, rfl, RowG.nil _ _ _ _, RowG.nil _ _ _ _, h1, h2⟩
theorem SegsG.kp {K K' : Nat → Prop} {m n : Nat} {w w' : World} {v : Value} {l : List SegT} (h : SegsG K (ExR K m w) w v l) (hk : Kp K K' w w') (hm : m ≤ n) : SegsG K' (ExR K' n w') w' v l :=
  h.keep hk fun _ _ hx => ExR.keep hk _ _ hm _ _ hx

set_option maxRecDepth 100000 in
set_option maxHeartbeats 4000000 in
theorem cmp_neg_true (g : Nat) (E : Int) (P : Nat → PSt → ExprT × PSt) (t : PSt) (d : Nat) (w : World) (h : RdS g E w t d)
    (hside : ∀ t w, RdS g E w t d → (d = 33 → t.fe ≠ 0) → Calls Tryz.prog 163 #[.pointer (some ⟨g, 0, none⟩)] w (SideP g E w (sideF E P d t) d)) (hf : d = 33 → t.fe ≠ 0)
    (ka na : Int) (sa : List UInt8) (pa : Bool) (ga : List SegT) (t1 : PSt) (hst : sideF E P d t = (⟨true, ka, na, sa, ⟨pa, ga⟩⟩, t1)) (o : Int) (ho : opS t1 = o) (hneg : o < 0) :
    Calls Tryz.prog 157 #[.pointer (some ⟨g, 0, none⟩)] w (ExP g E w (cmpF E P d t) d) := by
  have hg := h.lt
  have HR0 := Lib.hid (h.alloc (.cells E0 106))
  have HX0 := Lib.hid (show Ex g w (w.alloc (.cells E0 106)) from (Ex.refl g w).alloc _)
  have HB0 := Lib.hid (Blk.new w 106 E0)
  have HS0 := Lib.hid (hside t _ HR0.out hf)
  have hln := sideF_len (E := E) (P := P) (d := d) t
  have htb := h.bound
  rw [hst] at HS0 hln
  unfold SideP at HS0
  unfold E0 at HR0 HX0 HB0 HS0
  simp only at HS0 hln
  have HE := Lib.hid (show cmpF E P d t = (tstE ⟨pa, ga⟩, formS E t1) by unfold cmpF; rw [hst]; unfold cmp2; simp only; rw [if_pos (by omega)]; rfl)
  clear h hst hside hf hln htb
  go_enter Tryz.func157, Tryz.ntmps157
  generalize hQ : bodyPost Tryz.prog Tryz.f157 (ExP g E w (cmpF E P d t) d) = Q
  have HQ := Lib.hid hQ; clear hQ
  go_wp2_with fail
  refine HS0.out.mono ?_
  rintro e w1 ⟨m, A, c, rfl, hs, hr, hx⟩
  simp only at hs ⊢
  unfold sideV
  have HS1 := Lib.hid hs
  have hR1 := hr.alloc (.cells #[.bool true, .int .i64 ka, .int .i64 na, .string (bs sa), .bool pa, .slice A ga.length c] 104)
  have HR1 := Lib.hid hR1
  have HX1 := Lib.hid ((HX0.out.trans hx).alloc (.cells #[.bool true, .int .i64 ka, .int .i64 na, .string (bs sa), .bool pa, .slice A ga.length c] 104))
  have HB1 := Lib.hid ((HB0.out.ex hx (by omega)).alloc (.cells #[.bool true, .int .i64 ka, .int .i64 na, .string (bs sa), .bool pa, .slice A ga.length c] 104))
  have HA1 := Lib.hid (Blk.new w1 104 #[.bool true, .int .i64 ka, .int .i64 na, .string (bs sa), .bool pa, .slice A ga.length c])
  have HK1 := Lib.hid ((Kp.al (w := w) (w' := w1) (o := .cells E0 106)).alloc (.cells #[.bool true, .int .i64 ka, .int .i64 na, .string (bs sa), .bool pa, .slice A ga.length c] 104))
  have hw1 : w.heap.size < w1.heap.size := by have := hx.size; simp at this; omega
  have HAT := Lib.hid (at_any g E t1 d _ hR1)
  have HOP := Lib.hid (op_any g E t1 d _ hR1)
  rw [ho] at HOP
  clear ho
  clear hs hR1 hr hx HS0 HB0 HX0 HR0
  go_wp2_with (first | (go_at_call 53; refine HAT.out.mono ?_; rintro e w' ⟨rfl, rfl⟩) | (go_at_call 164; refine HOP.out.mono ?_; rintro e w2 ⟨rfl, hr, hx⟩; have HR2 := Lib.hid hr; have HX2 := Lib.hid (HX1.out.trans hx); have HB2 := Lib.hid (HB1.out.ex hx (by omega)); have HA2 := Lib.hid (HA1.out.ex hx (by omega)); have HK2 := Lib.hid (HK1.out.ex hx (fun b hb _ => by have := hb.al; omega)); have HFM := Lib.hid (form_any g E t1 d w2 hr); clear hr hx; obtain ⟨xz, ⟨x0, x1, x2, x3, x4, x5⟩, ⟨xf0, xf1, xf2, xf3, xf4, xf5⟩⟩ := HA2.out.c6) | (go_at_call 31; refine HFM.out.mono ?_; rintro e w3 ⟨rfl, hr, hx⟩; clear xz x0 x1 x2 x3 x4 x5 xf0 xf1 xf2 xf3 xf4 xf5; have HR3 := Lib.hid hr; have HX3 := Lib.hid (HX2.out.trans hx); have HB3 := Lib.hid (HB2.out.ex hx (by omega)); have HA3 := Lib.hid (HA2.out.ex hx (by omega)); have HK3 := Lib.hid (HK2.out.ex hx (fun b hb _ => by have := hb.al; omega)); clear hr hx; obtain ⟨xz, ⟨x0, x1, x2, x3, x4, x5⟩, ⟨xf0, xf1, xf2, xf3, xf4, xf5⟩⟩ := HA3.out.c6; obtain ⟨z, ⟨d0, d1, d2, d3, d4, d5, d6, d7, d8, d9, d10, d11, d12, d13, d14, d15, d16⟩, ⟨f0, f1, f2, f3, f4, f5, f6, f7, f8, f9, f10, f11, f12, f13, f14, f15, f16⟩⟩ := HB3.out.c17))
  rw [← HQ.out, HE.out]
  refine bodyPost_ret (v := exV (tstE ⟨pa, ga⟩) (.slice none 0 0) (.slice A ga.length c) (.slice none 0 0) (.slice none 0 0)) (results_cell_row (by rfl) _ _ w.heap.size _ _ _ _ (by rfl) (show Blk _ w.heap.size 106 _ from HB3.out.put17) Tryz.underlying106 (by rfl) (by kernel_rfl)) rfl ⟨m + 1, _, _, _, _, rfl, ExR.tst (HS1.out.kp (HK3.out.far17 (fun b hb _ => by have := hb.al; omega)) (Nat.le_refl _)), HR3.out.far17 hg, HX3.out.far17 (Nat.le_refl _)⟩

set_option maxRecDepth 100000 in
set_option maxHeartbeats 4000000 in
theorem cmp_neg_false (g : Nat) (E : Int) (P : Nat → PSt → ExprT × PSt) (t : PSt) (d : Nat) (w : World) (h : RdS g E w t d)
    (hside : ∀ t w, RdS g E w t d → (d = 33 → t.fe ≠ 0) → Calls Tryz.prog 163 #[.pointer (some ⟨g, 0, none⟩)] w (SideP g E w (sideF E P d t) d)) (hf : d = 33 → t.fe ≠ 0)
    (ka na : Int) (sa : List UInt8) (pa : Bool) (ga : List SegT) (t1 : PSt) (hst : sideF E P d t = (⟨false, ka, na, sa, ⟨pa, ga⟩⟩, t1)) (o : Int) (ho : opS t1 = o) (hneg : o < 0) :
    Calls Tryz.prog 157 #[.pointer (some ⟨g, 0, none⟩)] w (ExP g E w (cmpF E P d t) d) := by
  have hg := h.lt
  have HR0 := Lib.hid (h.alloc (.cells E0 106))
  have HX0 := Lib.hid (show Ex g w (w.alloc (.cells E0 106)) from (Ex.refl g w).alloc _)
  have HB0 := Lib.hid (Blk.new w 106 E0)
  have HS0 := Lib.hid (hside t _ HR0.out hf)
  have hln := sideF_len (E := E) (P := P) (d := d) t
  have htb := h.bound
  rw [hst] at HS0 hln
  unfold SideP at HS0
  unfold E0 at HR0 HX0 HB0 HS0
  simp only at HS0 hln
  have HE := Lib.hid (show cmpF E P d t = (tstE ⟨pa, ga⟩, t1) by unfold cmpF; rw [hst]; unfold cmp2; simp only; rw [if_pos (by omega)]; rfl)
  clear h hst hside hf hln htb
  go_enter Tryz.func157, Tryz.ntmps157
  generalize hQ : bodyPost Tryz.prog Tryz.f157 (ExP g E w (cmpF E P d t) d) = Q
  have HQ := Lib.hid hQ; clear hQ
  go_wp2_with fail
  refine HS0.out.mono ?_
  rintro e w1 ⟨m, A, c, rfl, hs, hr, hx⟩
  simp only at hs ⊢
  unfold sideV
  have HS1 := Lib.hid hs
  have hR1 := hr.alloc (.cells #[.bool false, .int .i64 ka, .int .i64 na, .string (bs sa), .bool pa, .slice A ga.length c] 104)
  have HR1 := Lib.hid hR1
  have HX1 := Lib.hid ((HX0.out.trans hx).alloc (.cells #[.bool false, .int .i64 ka, .int .i64 na, .string (bs sa), .bool pa, .slice A ga.length c] 104))
  have HB1 := Lib.hid ((HB0.out.ex hx (by omega)).alloc (.cells #[.bool false, .int .i64 ka, .int .i64 na, .string (bs sa), .bool pa, .slice A ga.length c] 104))
  have HA1 := Lib.hid (Blk.new w1 104 #[.bool false, .int .i64 ka, .int .i64 na, .string (bs sa), .bool pa, .slice A ga.length c])
  have HK1 := Lib.hid ((Kp.al (w := w) (w' := w1) (o := .cells E0 106)).alloc (.cells #[.bool false, .int .i64 ka, .int .i64 na, .string (bs sa), .bool pa, .slice A ga.length c] 104))
  have hw1 : w.heap.size < w1.heap.size := by have := hx.size; simp at this; omega
  have HAT := Lib.hid (at_any g E t1 d _ hR1)
  have HOP := Lib.hid (op_any g E t1 d _ hR1)
  rw [ho] at HOP
  clear ho
  clear hs hR1 hr hx HS0 HB0 HX0 HR0
  go_wp2_with (first | (go_at_call 53; refine HAT.out.mono ?_; rintro e w' ⟨rfl, rfl⟩) | (go_at_call 164; refine HOP.out.mono ?_; rintro e w2 ⟨rfl, hr, hx⟩; have HR2 := Lib.hid hr; have HX2 := Lib.hid (HX1.out.trans hx); have HB2 := Lib.hid (HB1.out.ex hx (by omega)); have HA2 := Lib.hid (HA1.out.ex hx (by omega)); have HK2 := Lib.hid (HK1.out.ex hx (fun b hb _ => by have := hb.al; omega)); have HFM := Lib.hid (form_any g E t1 d w2 hr); clear hr hx; obtain ⟨xz, ⟨x0, x1, x2, x3, x4, x5⟩, ⟨xf0, xf1, xf2, xf3, xf4, xf5⟩⟩ := HA2.out.c6; obtain ⟨z, ⟨d0, d1, d2, d3, d4, d5, d6, d7, d8, d9, d10, d11, d12, d13, d14, d15, d16⟩, ⟨f0, f1, f2, f3, f4, f5, f6, f7, f8, f9, f10, f11, f12, f13, f14, f15, f16⟩⟩ := HB2.out.c17))
  rw [← HQ.out, HE.out]
  refine bodyPost_ret (v := exV (tstE ⟨pa, ga⟩) (.slice none 0 0) (.slice A ga.length c) (.slice none 0 0) (.slice none 0 0)) (results_cell_row (by rfl) _ _ w.heap.size _ _ _ _ (by rfl) (show Blk _ w.heap.size 106 _ from HB2.out.put17) Tryz.underlying106 (by rfl) (by kernel_rfl)) rfl ⟨m + 1, _, _, _, _, rfl, ExR.tst (HS1.out.kp (HK2.out.far17 (fun b hb _ => by have := hb.al; omega)) (Nat.le_refl _)), HR2.out.far17 hg, HX2.out.far17 (Nat.le_refl _)⟩

theorem cmp_neg (g : Nat) (E : Int) (P : Nat → PSt → ExprT × PSt) (t : PSt) (d : Nat) (w : World) (h : RdS g E w t d)
    (hside : ∀ t w, RdS g E w t d → (d = 33 → t.fe ≠ 0) → Calls Tryz.prog 163 #[.pointer (some ⟨g, 0, none⟩)] w (SideP g E w (sideF E P d t) d)) (hf : d = 33 → t.fe ≠ 0)
    (a : SideT) (t1 : PSt) (hst : sideF E P d t = (a, t1)) (hneg : opS t1 < 0) :
    Calls Tryz.prog 157 #[.pointer (some ⟨g, 0, none⟩)] w (ExP g E w (cmpF E P d t) d) := by
  obtain ⟨al, ka, na, sa, pa, ga⟩ := a
  cases al
  · exact cmp_neg_false g E P t d w h hside hf ka na sa pa ga t1 hst _ rfl hneg
  · exact cmp_neg_true g E P t d w h hside hf ka na sa pa ga t1 hst _ rfl hneg

end Go.Proofs.YtpcbcodmocmilaaGreatDoor
