/- G37: Qw, Qk joined. -/
import Derived.Test.YtpcbcodmocmilaaDoorQu
import Derived.Test.YtpcbcodmocmilaaDoorQj
namespace Go.Proofs.YtpcbcodmocmilaaDoor
open Go.RowKit
/- qtree: cmp. -/
section
open Go.RowKit

theorem opS_fe {t : PSt} (h : ¬ opS t < 0) : t.fe = 0 := Classical.byContradiction fun hf => h (by rw [opS_bad hf]; decide)
theorem cmp_pos (g : Nat) (E : Int) (P : Nat → PSt → ExprT × PSt) (t : PSt) (d : Nat) (w : World) (h : RdS g E w t d) (hL : LeP P)
    (hside : ∀ t w, RdS g E w t d → (d = 33 → t.fe ≠ 0) → Calls Tryd.prog 153 #[.pointer (some ⟨g, 0, none⟩)] w (SideP g E w (sideF E P d t) d)) (hf : d = 33 → t.fe ≠ 0)
    (a : SideT) (t1 : PSt) (hst : sideF E P d t = (a, t1)) (hpos : ¬ opS t1 < 0) :
    Calls Tryd.prog 151 #[.pointer (some ⟨g, 0, none⟩)] w (ExP g E w (cmpF E P d t) d) := by
  obtain ⟨b, t4, hst4⟩ : ∃ b t4, sideF E P d (nextS E t1) = (b, t4) := ⟨_, _, rfl⟩
  have hb := h.bound
  have hf3 : d = 33 → (nextS E t1).fe ≠ 0 := fun e => by
    have h1 := hf e
    have h2 := opS_fe hpos
    have h3 : t1 = t := by have := congrArg Prod.snd hst; rw [sideF_bad h1] at this; exact this.symm
    rw [h3] at h2
    exact absurd h2 h1
  have hlb : b.p.segs.length ≤ 1000000 := by
    have h1 := sideF_len (E := E) (P := P) (d := d) (nextS E t1)
    rw [hst4] at h1
    have h2 := nextS_le E t1
    have h3 := sideF_le hL d (E := E) t
    rw [hst] at h3
    simp only at h1 h3
    omega
  obtain ⟨al, ka, na, sa, pa, ga⟩ := a
  obtain ⟨bl, kb, nb, sb, pb, gb⟩ := b
  simp only at hlb
  cases al <;> cases bl
  · exact cmp_pos_false_false g E P t d w h hside hf ka na sa pa ga t1 hst _ rfl hpos kb nb sb pb gb t4 hst4 hf3
  · cases hs : singB ⟨pa, ga⟩
    · exact cmp_pos_false_true_false g E P t d w h hside hf ka na sa pa ga t1 hst _ rfl hpos kb nb sb pb gb t4 hst4 hs hf3
    · exact cmp_pos_false_true_true g E P t d w h hside hf ka na sa pa ga t1 hst _ rfl hpos kb nb sb pb gb t4 hst4 hs hf3
  · cases hs : singB ⟨pb, gb⟩
    · exact cmp_pos_true_false_false g E P t d w h hside hf ka na sa pa ga t1 hst _ rfl hpos kb nb sb pb gb t4 hst4 hs hf3 hlb
    · exact cmp_pos_true_false_true g E P t d w h hside hf ka na sa pa ga t1 hst _ rfl hpos kb nb sb pb gb t4 hst4 hs hf3 hlb
  · exact cmp_pos_true_true g E P t d w h hside hf ka na sa pa ga t1 hst _ rfl hpos kb nb sb pb gb t4 hst4 hf3
theorem cmp_any (g : Nat) (E : Int) (P : Nat → PSt → ExprT × PSt) (t : PSt) (d : Nat) (w : World) (h : RdS g E w t d) (hL : LeP P)
    (hside : ∀ t w, RdS g E w t d → (d = 33 → t.fe ≠ 0) → Calls Tryd.prog 153 #[.pointer (some ⟨g, 0, none⟩)] w (SideP g E w (sideF E P d t) d)) (hf : d = 33 → t.fe ≠ 0) :
    Calls Tryd.prog 151 #[.pointer (some ⟨g, 0, none⟩)] w (ExP g E w (cmpF E P d t) d) := by
  obtain ⟨a, t1, hst⟩ : ∃ a t1, sideF E P d t = (a, t1) := ⟨_, _, rfl⟩
  by_cases hn : opS t1 < 0
  · exact cmp_neg g E P t d w h hside hf a t1 hst hn
  · exact cmp_pos g E P t d w h hL hside hf a t1 hst hn

end
/- qtree: list at one (printed by gen_list.py). -/
section
open Go.RowKit

set_option maxRecDepth 100000 in
set_option maxHeartbeats 4000000 in
theorem list_one (g : Nat) (E : Int) (F : PSt → ExprT × PSt) (s : ByteArray) (k : Int) (d : Nat) (hd : d ≤ 33) (hLF : ∀ t, (F t).2.toks.length ≤ t.toks.length) (hBF : ∀ t, t.fe ≠ 0 → (F t).2 = t)
    (hF : ∀ t w, RdS g E w t d → (d = 33 → t.fe ≠ 0) → Calls Tryd.prog 147 #[.pointer (some ⟨g, 0, none⟩)] w (ExP g E w (F t) d)) (t : PSt) (w : World) (h : RdS g E w t d) (hf : d = 33 → t.fe ≠ 0) :
    Calls Tryd.prog 139 #[.pointer (some ⟨g, 0, none⟩), .string s, .int .i64 k, .func (.func 147) #[.pointer (some ⟨g, 0, none⟩)] #[]] w (ExP g E w (listF E s.data.toList k F t) d) := by
  have hg := h.lt
  obtain ⟨w0, hw0⟩ : ∃ w0 : World, w0.heap.size = w.heap.size + 1 := ⟨w.alloc (.cells #[] 0), by simp⟩
  have hwa : w.heap.size + 1 ≤ w0.heap.size := by omega
  have hwb : w0.heap.size ≤ w.heap.size + 1 := by omega
  have hg0 : g < w0.heap.size := by omega
  clear hw0
  have HR0 := Lib.hid (h.alloc (.cells E0 97))
  have HX0 := Lib.hid (show Ex g w (w.alloc (.cells E0 97)) from (Ex.refl g w).alloc _)
  have HB0 := Lib.hid (Blk.new w 97 E0)
  have HTB := Lib.hid h.bound
  have HF1 := Lib.hid (hF t _ HR0.out hf)
  have HF := Lib.hid hF
  have HLE := Lib.hid hLF
  have HLE1 := Lib.hid (hLF t)
  have HF2 := Lib.hid (show d = 33 → (F t).2.fe ≠ 0 from fun e => by rw [hBF t (hf e)]; exact hf e)
  unfold listF
  obtain ⟨x0, t1, hx0⟩ : ∃ x0 t1, F t = (x0, t1) := ⟨_, _, rfl⟩
  rw [hx0] at HF1 HF2 HLE1 ⊢
  unfold ExP at HF1
  simp only at HF1 HF2 HLE1 ⊢
  unfold E0 at HR0 HX0 HB0 HF1
  obtain ⟨i0, hi, hz0, hz1, hz2⟩ := info_parts info_ex
  clear h hf hx0 hF hLF hBF
  go_enter Tryd.func139, Tryd.ntmps139
  generalize hQ : bodyPost Tryd.prog Tryd.f139 (ExP g E w (joinE k x0 (listL E s.data.toList F t1.toks.length t1).1, (listL E s.data.toList F t1.toks.length t1).2) d) = Q
  have HQ := Lib.hid hQ; clear hQ
  go_wp2_with fail
  refine HF1.out.mono ?_
  rintro e w1 ⟨m, kv, qv, lv, rv, rfl, hex, hr, hx⟩
  obtain ⟨A1, q1, A2, q2, A3, q3, A4, q4, rfl, rfl, rfl, rfl⟩ := hex.slices
  have hs1 := (HB0.out.ex hx (by omega)).lt
  have HBR := Lib.hid (BRow.one REx_ok (w0 := w0) hex (fun b hb _ => by have := hb.al; omega) (by omega) 97)
  have HRD := Lib.hid (hr.alloc (.cells (exL x0 (.slice A1 x0.kids.length q1) (.slice A2 x0.q.segs.length q2) (.slice A3 x0.left.p.segs.length q3) (.slice A4 x0.right.p.segs.length q4)).toArray 97))
  have HEX := Lib.hid ((HX0.out.trans hx).alloc (.cells (exL x0 (.slice A1 x0.kids.length q1) (.slice A2 x0.q.segs.length q2) (.slice A3 x0.left.p.segs.length q3) (.slice A4 x0.right.p.segs.length q4)).toArray 97))
  have HB1 := Lib.hid ((HB0.out.ex hx (by omega)).alloc (.cells (exL x0 (.slice A1 x0.kids.length q1) (.slice A2 x0.q.segs.length q2) (.slice A3 x0.left.p.segs.length q3) (.slice A4 x0.right.p.segs.length q4)).toArray 97))
  unfold exV
  clear hex hr hx HF1 HR0 HX0 HB0
  go_wp2
  unfold exL at HBR HRD HEX HB1
  go_loopg [9] t1.toks.length (fun kk v wr => ∃ (t' : PSt) (l : List ExprT) (css : List (List Value)) (m f : Nat), kk = t'.toks.length ∧ t'.toks.length ≤ f ∧ l.length + t'.toks.length ≤ 1000001 ∧ Hid (BRow 17 97 REx m w0 wr v l css) ∧ Hid (RdS g E wr t' d) ∧ Hid (Ex g w wr) ∧ Hid (Blk wr w.heap.size 97 E0) ∧ Hid (d = 33 → t'.fe ≠ 0) ∧ Hid (((x0 :: (listL E s.data.toList F t1.toks.length t1).1, (listL E s.data.toList F t1.toks.length t1).2) : List ExprT × PSt) = (l ++ (listL E s.data.toList F f t').1, (listL E s.data.toList F f t').2)))
  case atStart => exact ⟨t1, [x0], [_], m, t1.toks.length, rfl, Nat.le_refl _, by have := HTB.out; have := HLE1.out; simp; omega, HBR, HRD, HEX, HB1, HF2, Lib.hid rfl⟩
  case round =>
    clear HBR HRD HEX HF2 HTB HLE1 HB1 hs1
    obtain ⟨t', l, css, m', f, hgk, hfl, hll, HBR, HRD, HEX, HBB, HFE, HEQ⟩ := hrel
    have HGK := Lib.hid hgk; clear hgk
    cases hb : isS s.data.toList t' with
    | true =>
      have hd32 := is_deep hb hd HFE.out
      have hlt := is_lt (E := E) hb
      obtain ⟨f', rfl⟩ : ∃ f', f = f' + 1 := ⟨f - 1, by omega⟩
      have HEQ := Lib.hid (HEQ.out.trans (by rw [listL_yes hb]))
      have HT := Lib.hid (take_yes g E t' d s wr HRD.out (Lib.hid hb))
      have HLE2 := Lib.hid (HLE.out (nextS E t'))
      obtain ⟨x, t3, hx3⟩ : ∃ x t3, F (nextS E t') = (x, t3) := ⟨_, _, rfl⟩
      have HX3 := Lib.hid hx3
      rw [hx3] at HEQ HLE2
      simp only at HEQ HLE2
      have HLT := Lib.hid hlt
      clear hb hx3 hlt HLE
      go_wp2_with (go_at_call 83; refine HT.out.mono ?_; rintro e w4 ⟨rfl, hr, hx⟩; have HS4 := Lib.hid (HF.out (nextS E t') w4 hr (fun e => absurd e (by omega))); have HX4 := Lib.hid (HEX.out.trans hx); have HB4 := Lib.hid (HBR.out.ex REx_ok hx hg0); have HC4 := Lib.hid (HBB.out.ex hx (by omega)); have hz4 := hx.size; clear hr hx)
      refine HS4.out.mono ?_
      rw [HX3.out]
      rintro e w5 ⟨mn, kv, qv, lv, rv, rfl, hex, hr, hx⟩
      simp only at hex hr ⊢
      obtain ⟨A1, q1, A2, q2, A3, q3, A4, q4, rfl, rfl, rfl, rfl⟩ := hex.slices
      have hz5 := hx.size
      obtain ⟨cs, hcs⟩ : ∃ cs, cs = exL x (.slice A1 x.kids.length q1) (.slice A2 x.q.segs.length q2) (.slice A3 x.left.p.segs.length q3) (.slice A4 x.right.p.segs.length q4) := ⟨_, rfl⟩
      rw [← hcs] at hex
      have HX5 := Lib.hid (HX4.out.trans hx)
      have HB5 := Lib.hid ((HB4.out.ex REx_ok hx hg0).bel REx_ok (bel_lit (o := .cells cs.toArray 97)))
      have HC5 := Lib.hid ((HC4.out.ex hx (by omega)).alloc (.cells cs.toArray 97))
      have HR5 := Lib.hid (hr.alloc (.cells cs.toArray 97))
      have HN5 := Lib.hid (show REx (Fr w4) mn (w5.alloc (.cells cs.toArray 97)) cs x from REx_ok.keep (show REx (Fr w4) mn w5 cs x from hex) ((Kp.id_ fun b hb _ => hb).alloc _) (Nat.le_refl _))
      have HK5 := Lib.hid (show ∀ b, Fr w4 b → b < (w5.alloc (.cells cs.toArray 97)).heap.size → w0.heap.size ≤ b ∧ u9.ownBlock ≠ some b from fun b (hb : w4.heap.size ≤ b) _ => ⟨by have := HBR.out.size; omega, fun e => by have := (HBR.out.blk e).2; omega⟩)
      have hwz := HB5.out.size
      have hlen : cs.length = 17 := REx_ok.len HN5.out
      unfold exV
      clear hex hr hx HS4 HB4 HC4
      subst hcs
      unfold exL at HB5 HC5 HR5 HN5 HK5 hwz
      go_wp2_with (at_builtin; refine wpList_append_any _ rfl (.tmp 16) (.tmp 19) 93 rfl w0.heap.size 97 i0 _ 17 216 Tryd.underlying93 hi hz0 hz1 hz2 rfl (by decide) u9 l.length css.flatten rfl HB5.out.own (w5.heap.size + 1) (some ⟨w5.heap.size, 0, none⟩) 1 1 (exL x (.slice A1 x.kids.length q1) (.slice A2 x.q.segs.length q2) (.slice A3 x.left.p.segs.length q3) (.slice A4 x.right.p.segs.length q4)) rfl (reads_new w5 97 17 1 (exL x (.slice A1 x.kids.length q1) (.slice A2 x.q.segs.length q2) (.slice A3 x.left.p.segs.length q3) (.slice A4 x.right.p.segs.length q4)) rfl) (REx_one HN5.out) (by unfold maxLen; omega) (by omega) hwz ?_; intro v' w7 hown7 hg7 hat7; have HB7 := Lib.hid (HB5.out.snoc REx_ok HN5.out HK5.out hown7 hg7 hat7); have HR7 := Lib.hid (HR5.out.grown hg7 (fun k hk => by have := (HBR.out.blk hk).1; omega)); have HC7 := Lib.hid (HC5.out.grown hg7 (fun k hk => by have := (HBR.out.blk hk).1; omega)); have HX7 := Lib.hid ((HX5.out.alloc (.cells (exL x (.slice A1 x.kids.length q1) (.slice A2 x.q.segs.length q2) (.slice A3 x.left.p.segs.length q3) (.slice A4 x.right.p.segs.length q4)).toArray 97)).grown hg7 (fun k hk => by have := (HBR.out.blk hk).1; omega)); clear hown7 hg7 hat7)
      go_roundg t3.toks.length
      case measure => have := HGK.out; have := HLT.out; have := HLE2.out; simp; omega
      case rel => exact ⟨t3, l ++ [x], _, _, f', rfl, by have := HLT.out; have := HLE2.out; omega, by have := HLT.out; have := HLE2.out; simp; omega, HB7, HR7, HX7, HC7, Lib.hid (fun e => absurd e (by omega)), Lib.hid (by rw [HEQ.out, List.append_assoc]; rfl)⟩
    | false =>
      have HT := Lib.hid (take_no g E t' d s wr HRD.out (Lib.hid hb))
      have hE := HEQ.out.trans (by rw [listL_no hb, List.append_nil])
      have hE1 : x0 :: (listL E s.data.toList F t1.toks.length t1).1 = l := congrArg Prod.fst hE
      have HE2 := Lib.hid (show (listL E s.data.toList F t1.toks.length t1).2 = t' from congrArg Prod.snd hE)
      have hl0 : 0 < l.length := by rw [← hE1]; simp
      obtain ⟨A, c, hv, hrow⟩ := HBR.out.done REx_ok
      subst hv
      have HROW := Lib.hid hrow
      have HB17 := HBB.out
      unfold E0 at HB17
      obtain ⟨z, ⟨d0, d1, d2, d3, d4, d5, d6, d7, d8, d9, d10, d11, d12, d13, d14, d15, d16⟩, ⟨f0, f1, f2, f3, f4, f5, f6, f7, f8, f9, f10, f11, f12, f13, f14, f15, f16⟩⟩ := HB17.c17
      clear hb
      by_cases h1 : l.length = 1
      · obtain ⟨x, hlx⟩ : ∃ x, l = [x] := List.length_eq_one_iff.1 h1
        obtain ⟨b, off, A1, q1, A2, q2, A3, q3, A4, q4, rfl, hR, hbl, hcells⟩ := RowG.first hrow hlx
        have HRx := Lib.hid hR
        have HCE := Lib.hid hcells
        have HE := Lib.hid (show (joinE k x0 (listL E s.data.toList F t1.toks.length t1).1, (listL E s.data.toList F t1.toks.length t1).2) = (x, t') by
          rw [hlx] at hE1
          obtain ⟨rfl, hnil⟩ := List.cons.inj hE1
          rw [hnil, HE2.out]
          rfl)
        clear hcells hR hrow HROW HEQ HBR hE hE1 hlx
        have hl1 : ((l.length : Int) == 1) = true := by rw [h1]; rfl
        go_wp2_with (first | (go_at_call 83; refine HT.out.mono ?_; rintro e w' ⟨rfl, rfl⟩) | (refine wpList_load_ex rfl (.tmp 25) rfl b off rfl HCE.out ?_; unfold exV))
        rw [← HQ.out, HE.out]
        refine bodyPost_ret (v := exV x (.slice A1 x.kids.length q1) (.slice A2 x.q.segs.length q2) (.slice A3 x.left.p.segs.length q3) (.slice A4 x.right.p.segs.length q4)) (results_cell_row (by rfl) _ _ w.heap.size _ _ _ _ (by rfl) (show Blk _ w.heap.size 97 _ from HB17.put17) Tryd.underlying97 (by rfl) (by kernel_rfl)) rfl ⟨_, _, _, _, _, rfl, ExR.keep ((Kp.id_ fun b (hb : w0.heap.size ≤ b) _ => (show w.heap.size ≤ b by omega)).far17 (fun b (hb : w0.heap.size ≤ b) _ => by omega)) _ _ (Nat.le_refl _) _ _ HRx.out, HRD.out.far17 hg, HEX.out.far17 (Nat.le_refl _)⟩
      · have HE := Lib.hid (show (joinE k x0 (listL E s.data.toList F t1.toks.length t1).1, (listL E s.data.toList F t1.toks.length t1).2) = (mkE k l, t') by
          rw [HE2.out]
          unfold joinE
          rw [if_neg (fun e => by rw [e] at hE1; rw [← hE1] at h1; exact h1 rfl), hE1])
        have hl1 : ((l.length : Int) == 1) = false := by rw [beq_eq_false_iff_ne]; omega
        clear hrow hE hE1 h1
        go_wp2_with (go_at_call 83; refine HT.out.mono ?_; rintro e w' ⟨rfl, rfl⟩)
        rw [← HQ.out, HE.out]
        have hkp : Kp (Fr w0) (Fr w) wr wr := Kp.id_ fun b (hb : w0.heap.size ≤ b) _ => (show w.heap.size ≤ b by omega)
        refine bodyPost_ret (v := exV (mkE k l) (.slice A l.length c) (.slice none 0 0) (.slice none 0 0) (.slice none 0 0)) (results_cell_row (by rfl) _ _ w.heap.size _ _ _ _ (by rfl) (show Blk _ w.heap.size 97 _ from HB17.put17) Tryd.underlying97 (by rfl) (by kernel_rfl)) rfl ⟨_, _, _, _, _, rfl, ExR.mk (HROW.out.keep (hkp.far17 (fun b (hb : w0.heap.size ≤ b) _ => by omega)) (fun cs x hx => REx_ok.keep hx (hkp.far17 (fun b (hb : w0.heap.size ≤ b) _ => by omega)) (Nat.le_refl _))) k, HRD.out.far17 hg, HEX.out.far17 (Nat.le_refl _)⟩

end

end Go.Proofs.YtpcbcodmocmilaaDoor
