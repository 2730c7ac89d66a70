/- G16: Qm, Qp joined. -/
import Derived.Test.YtpcbcodmocmilaaGreatDoorQj
import Derived.Test.YtpcbcodmocmilaaGreatDoorQb
namespace Go.Proofs.YtpcbcodmocmilaaGreatDoor
open Go.RowKit
/- qtree: round (over or's contract). -/
section
open Go.RowKit

theorem load_far {w : World} {k : Nat} {T : TypeId} {x : ExprT} {kv qv lv rv : Value} {p : Addr} (h : Blk w k T (exL x kv qv lv rv).toArray) (hp : k ≠ p.block) (v : Value) :
    ∀ (j : Nat) u, (exL x kv qv lv rv)[j]? = some u → (w.setCell p v).cell? ⟨k, 0 + 0 * 17 + j, none⟩ = some u := fun j u hu => by
  rw [show 0 + 0 * 17 + j = j by omega]
  exact ((h.far hp v).cell j).trans (by simpa using hu)

set_option maxRecDepth 100000 in
set_option maxHeartbeats 4000000 in
theorem round_any (g : Nat) (E : Int) (P : Nat → PSt → ExprT × PSt) (N : Nat) (hP : OrC g E P N) (t : PSt) (d : Nat) (w : World) (h : RdS g E w t d) (hN : N ≤ d + 1) (hd : d ≤ 32) :
    Calls Tryz.prog 156 #[.pointer (some ⟨g, 0, none⟩)] w (ExP g E w (roundF E P d t) d) := by
  have hg := h.lt
  have HR0 := Lib.hid (h.alloc (.cells E0 106))
  have HX0 := Lib.hid (show Ex g w (w.alloc (.cells E0 106)) from (Ex.refl g w).alloc _)
  have HB0 := Lib.hid (Blk.new w 106 E0)
  have HO := Lib.hid (open_any g E t d _ HR0.out (by omega))
  have HP := Lib.hid (fun w hr => hP (d + 1) (openS E d t) w hr (by omega) (fun e => openS_33 (by omega)) hN)
  unfold roundF
  obtain ⟨x, t2, hx2⟩ : ∃ x t2, P (d + 1) (openS E d t) = (x, t2) := ⟨_, _, rfl⟩
  rw [hx2] at HP ⊢
  unfold ExP at HP
  simp only at HP ⊢
  unfold E0 at HR0 HX0 HB0 HO
  clear h hx2 hP
  go_enter Tryz.func156, Tryz.ntmps156
  generalize hQ : bodyPost Tryz.prog Tryz.f156 (ExP g E w (x, mustS E [41] t2) d) = Q
  have HQ := Lib.hid hQ; clear hQ
  go_wp2_with (go_at_call 122; refine HO.out.mono ?_; rintro e w1 ⟨rfl, hr, hx⟩; have HP1 := Lib.hid (HP.out w1 hr); have HX1 := Lib.hid (HX0.out.trans hx); have HB1 := Lib.hid (HB0.out.ex hx (by omega)); clear hr hx)
  refine HP1.out.mono ?_
  rintro e w2 ⟨m, kv, qv, lv, rv, rfl, hex, hr, hx⟩
  obtain ⟨A1, q1, A2, q2, A3, q3, A4, q4, rfl, rfl, rfl, rfl⟩ := hex.slices
  have hw1 : w.heap.size < w1.heap.size := HB1.out.lt
  have hw2 := hx.size
  obtain ⟨cs, hcs⟩ : ∃ cs, cs = exL x (.slice A1 x.kids.length q1) (.slice A2 x.q.segs.length q2) (.slice A3 x.left.p.segs.length q3) (.slice A4 x.right.p.segs.length q4) := ⟨_, rfl⟩
  have HE2 := Lib.hid (show REx (Fr w1) m w2 cs x by rw [hcs]; exact hex)
  have HX2 := Lib.hid ((HX1.out.trans hx).alloc (.cells cs.toArray 106))
  have HB2 := Lib.hid ((HB1.out.ex hx (by omega)).alloc (.cells cs.toArray 106))
  have HC2 := Lib.hid (Blk.new w2 106 cs.toArray)
  have HM := Lib.hid (must_any g E t2 (d + 1) ⟨#[41]⟩ _ (hr.alloc (.cells cs.toArray 106)))
  have HC2a := Lib.hid (show Blk _ w2.heap.size 106 (exL x (.slice A1 x.kids.length q1) (.slice A2 x.q.segs.length q2) (.slice A3 x.left.p.segs.length q3) (.slice A4 x.right.p.segs.length q4)).toArray by rw [← hcs]; exact HC2.out)
  clear HC2
  subst hcs
  have HE3 := Lib.hid HE2.out
  clear HE2
  unfold exL at HX2 HB2 HM HC2a
  unfold exV
  clear hex hr hx HP1 HB1 HX1
  go_wp2_with (first
    | (go_at_call 103; refine HM.out.mono ?_; rintro e w3 ⟨rfl, hr, hx⟩; have HR3 := Lib.hid hr; have HK3 := Lib.hid hx; have HX3 := Lib.hid (HX2.out.trans hx); have HB3 := HB2.out.ex hx (by omega); have HC3 := Lib.hid (HC2a.out.ex hx (by omega)); clear hr hx; obtain ⟨A, c, n, hn, hnc, hc, hd1, hg2, ⟨c0, c1, c2, c3, c4⟩, ⟨p0, p2, p3, p4⟩, hT⟩ := HR3.out.cells; clear hn hT hnc hc c0 c1 c2 c3 p0 p2 p3; obtain ⟨z, ⟨d0, d1, d2, d3, d4, d5, d6, d7, d8, d9, d10, d11, d12, d13, d14, d15, d16⟩, ⟨f0, f1, f2, f3, f4, f5, f6, f7, f8, f9, f10, f11, f12, f13, f14, f15, f16⟩⟩ := HB3.c17; have HCE := Lib.hid (fun (v : Value) => load_far (p := ⟨g, 4, none⟩) HC3.out (by show w2.heap.size ≠ g; omega) v))
    | (refine wpList_load_ex rfl (.tmp 3) rfl w2.heap.size 0 rfl (HCE.out _) ?_; unfold exV))
  rw [← HQ.out]
  have hkp : Kp (Fr w1) (Fr w) w2 w3 := ((Kp.id_ fun b hb _ => hb).alloc _).trans (HK3.out.kp fun b (hb : w1.heap.size ≤ b) _ => ⟨by omega, (show w.heap.size ≤ b by omega)⟩)
  trace_state
  refine bodyPost_ret (v := exV x (.slice A1 x.kids.length q1) (.slice A2 x.q.segs.length q2) (.slice A3 x.left.p.segs.length q3) (.slice A4 x.right.p.segs.length q4)) (results_cell_row (by rfl) _ _ w.heap.size _ _ _ _ (by rfl) (show Blk _ w.heap.size 106 _ from (HB3.far (p := ⟨g, 4, none⟩) (by show w.heap.size ≠ g; omega) _).put17) Tryz.underlying106 (by rfl) (by kernel_rfl)) rfl ⟨m, _, _, _, _, rfl, ExR.keep ((hkp.set_ (p := ⟨g, 4, none⟩) (fun b (hb : w1.heap.size ≤ b) _ => (show b ≠ g by omega)) _).far17 (fun b (hb : w1.heap.size ≤ b) _ => by omega)) _ _ (Nat.le_refl _) _ _ HE3.out, (HR3.out.deep (d' := d) (by omega) (by omega)).far17 hg, (HX3.out.self1 4 _).far17 (Nat.le_refl _)⟩

end
/- Queries read, plain: behind a fault nothing is read (no word of a dump). -/
section

/-- Behind a fault P reads nothing. -/
def BadP (P : Nat → PSt → ExprT × PSt) : Prop := ∀ d t, t.fe ≠ 0 → (P d t).2 = t
section
variable {E : Int} {t : PSt}
theorem kind_bad (h : t.fe ≠ 0) : kindS t = 0 := by unfold kindS; rw [hdT_bad h]; rfl
theorem isPath_bad (h : t.fe ≠ 0) : isPath t = false := by unfold isPath; rw [isS_bad _ h, isS_bad _ h]; rfl
theorem litS_bad (h : t.fe ≠ 0) : litS t = none := by unfold litS; rw [kind_bad h]; rfl
theorem opS_bad (h : t.fe ≠ 0) : opS t = -1 := by unfold opS; rw [kind_bad h]; rfl
end
section
variable {E : Int} {P : Nat → PSt → ExprT × PSt} {d : Nat} {t : PSt}
theorem sideF_bad (h : t.fe ≠ 0) : sideF E P d t = (side0, t) := by
  unfold sideF
  rw [isPath_bad h, litS_bad h, formS_bad h]
  rfl
theorem cmp2_bad (a : SideT) (h : t.fe ≠ 0) : cmp2 E P d a t = (tstE a.p, t) := by
  unfold cmp2
  rw [opS_bad h, if_pos (by decide)]
  split
  · rw [formS_bad h]
  · rfl
theorem cmpF_bad (h : t.fe ≠ 0) : cmpF E P d t = (tstE path0, t) := by
  unfold cmpF
  rw [sideF_bad h, cmp2_bad _ h]
  rfl
theorem oneF_bad (m : Bool) (h : t.fe ≠ 0) : (oneF m E P d t).2 = t := by
  unfold oneF
  rw [isS_bad _ h, isS_bad _ h, cmpF_bad h]
  rfl
end
theorem listL_bad {E : Int} {sg : List UInt8} {F : PSt → ExprT × PSt} {t : PSt} (f : Nat) (h : t.fe ≠ 0) : listL E sg F f t = ([], t) := by
  cases f with
  | zero => rfl
  | succ f => rw [listL, isS_bad _ h]; rfl
theorem listF_bad {E : Int} {sg : List UInt8} {k : Int} {F : PSt → ExprT × PSt} (hF : ∀ t, t.fe ≠ 0 → (F t).2 = t) (t : PSt) (h : t.fe ≠ 0) : (listF E sg k F t).2 = t := by
  unfold listF
  rw [hF t h, listL_bad _ h]
theorem andF_bad {E : Int} {P : Nat → PSt → ExprT × PSt} {d : Nat} (m : Bool) (t : PSt) (h : t.fe ≠ 0) : (andF m E P d t).2 = t := listF_bad (fun _ h => oneF_bad m h) t h
theorem andF_le {m : Bool} {E : Int} {P : Nat → PSt → ExprT × PSt} (hP : LeP P) (d : Nat) (t : PSt) : (andF m E P d t).2.toks.length ≤ t.toks.length := listF_le (fun t => oneF_le hP d m t) t

end

end Go.Proofs.YtpcbcodmocmilaaGreatDoor
