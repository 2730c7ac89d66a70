/- qtree: sels. -/
import Derived.Deep.LoopGhost
import Derived.Test.YtpcbcodmocmilaaDoorG14
namespace Go.Proofs.YtpcbcodmocmilaaDoor
open Go.RowKit

theorem RdS.low {g : Nat} {E : Int} {w w' : World} {t : PSt} {d : Nat} (h : RdS g E w t d) (hb : ∀ k, k ≤ g → w'.heap[k]? = w.heap[k]?) : RdS g E w' t d := by
  obtain ⟨A, c, h1, h2, h3, h4, h5⟩ := h
  exact ⟨A, c, (hb g (Nat.le_refl _)).trans h1, h2, h3, h4, h5.keep fun k hk => hb k (by omega)⟩
theorem RdS.grown {g : Nat} {E : Int} {w w' : World} {t : PSt} {d : Nat} {row : Option Nat} (h : RdS g E w t d) (hg : w.grownBy w' row) (hr : ∀ k, row = some k → g < k) : RdS g E w' t d :=
  h.low fun k hk => hg.block k (Nat.lt_of_le_of_lt hk h.lt) (fun e => by have := hr k e.symm; omega)
theorem Ex.grown {g : Nat} {a w w' : World} {row : Option Nat} (h : Ex g a w) (hg : w.grownBy w' row) (hr : ∀ k, row = some k → a.heap.size ≤ k) : Ex g a w' :=
  ⟨hg.os.trans h.os, hg.output.trans h.output, Nat.le_trans h.size hg.size, fun k hk hkg => (hg.block k (Nat.lt_of_lt_of_le hk h.size) (fun e => by have := hr k e.symm; omega)).trans (h.block k hk hkg)⟩
theorem RdS.bound {g : Nat} {E : Int} {w : World} {t : PSt} {d : Nat} (h : RdS g E w t d) : t.toks.length ≤ 1000000 := by
  obtain ⟨A, c, _, h2, h3, _⟩ := h; omega
theorem SelC.ptr {K : Nat → Prop} {R : List Value → ExprT → Prop} {w : World} {x : SelT} {pv : Value} (h : SelC K R w (selL x pv) x) : ∃ p, pv = .pointer p := by
  obtain ⟨pv', h1, h2⟩ := h
  unfold selL at h1
  simp only [List.cons.injEq, true_and, and_true] at h1
  subst h1
  cases hf : x.f with
  | none => rw [hf] at h2; exact ⟨none, h2⟩
  | some e => rw [hf] at h2; obtain ⟨b, off, cs, h1, _⟩ := h2; exact ⟨_, h1⟩
theorem kindS_bad {t : PSt} (h : t.fe ≠ 0) : kindS t = 0 := by unfold kindS; rw [hdT_bad h]; rfl
theorem mustS_bad {E : Int} {l : List UInt8} {t : PSt} (h : t.fe ≠ 0) : mustS E l t = t := by unfold mustS; rw [isS_bad l h]; exact formS_bad h
theorem selF_bad {E : Int} {P : Nat → PSt → ExprT × PSt} {d : Nat} {t : PSt} (h : t.fe ≠ 0) : (selF E P d t).2 = t := by
  unfold selF
  rw [if_neg (by rw [kindS_bad h]; decide), ite_ff (isS_bad _ h), ite_ff (isS_bad _ h), ite_ff (by rw [kindS_bad h, isS_bad _ h]; rfl)]
  exact formS_bad h
def SelsP (g : Nat) (E : Int) (w : World) (r : List SelT × PSt) (d : Nat) (e : Ending) (w' : World) : Prop :=
  ∃ m A c, e = .returned (.slice A r.1.length c) ∧ RowG (Fr w) 9 (RSel (Fr w) m w') w' (.slice A r.1.length c) r.1 ∧ RdS g E w' r.2 d ∧ Ex g w w'
theorem selsL_yes {E : Int} {P : Nat → PSt → ExprT × PSt} {d f : Nat} {t : PSt} (h : isS [44] t = true) : selsL E P d (f + 1) t = ((selF E P d (nextS E t)).1 :: (selsL E P d f (selF E P d (nextS E t)).2).1, (selsL E P d f (selF E P d (nextS E t)).2).2) := by rw [selsL, ite_tt h]
theorem selsL_no {E : Int} {P : Nat → PSt → ExprT × PSt} {d f : Nat} {t : PSt} (h : isS [44] t = false) : selsL E P d f t = ([], t) := by
  cases f with
  | zero => rfl
  | succ f => rw [selsL, ite_ff h]

set_option maxRecDepth 100000 in
set_option maxHeartbeats 4000000 in
theorem sels_any (g : Nat) (E : Int) (P : Nat → PSt → ExprT × PSt) (hL : LeP P) (N : Nat) (hP : OrC g E P N) (t : PSt) (d : Nat) (w : World) (h : RdS g E w t d) (hN : N ≤ d + 1) (hd : d ≤ 33) (hf : d = 33 → t.fe ≠ 0) :
    Calls Tryd.prog 81 #[.pointer (some ⟨g, 0, none⟩)] w (SelsP g E w (selsF E P d t) d) := by
  have hg := h.lt
  have HM := Lib.hid (must_any g E t d ⟨#[91]⟩ w h)
  have HS := Lib.hid (fun t w hr hf => sel_any g E P N hP t d w hr hN hd hf)
  have HMB := Lib.hid (mustS_le E [91] t)
  have HTB := Lib.hid h.bound
  have HF1 := Lib.hid (show d = 33 → (mustS E [91] t).fe ≠ 0 from fun e => by rw [mustS_bad (hf e)]; exact hf e)
  have HF2 := Lib.hid (show d = 33 → (selF E P d (mustS E [91] t)).2.fe ≠ 0 from fun e => by rw [selF_bad (HF1.out e)]; exact HF1.out e)
  have HLE := Lib.hid (fun t => selF_le hL d (E := E) t)
  unfold selsF
  obtain ⟨t1, ht1⟩ : ∃ t1, mustS E [91] t = t1 := ⟨_, rfl⟩
  have HM := Lib.hid (show Calls Tryd.prog 105 #[.pointer (some ⟨g, 0, none⟩), .string ⟨#[91]⟩] w fun e w' => e = .returned (.tuple #[]) ∧ RdS g E w' t1 d ∧ Ex g w w' by rw [← ht1]; exact HM.out)
  rw [ht1] at HF1 HF2 HMB ⊢
  obtain ⟨x0, t2, hx0⟩ : ∃ x0 t2, selF E P d t1 = (x0, t2) := ⟨_, _, rfl⟩
  have HX0 := Lib.hid hx0
  have HLE1 := Lib.hid (HLE.out t1)
  rw [hx0] at HF2 HLE1 ⊢
  simp only at HF2 HLE1 ⊢
  obtain ⟨i0, hi, hz0, hz1, hz2⟩ := info_parts info_sel
  clear h hf hx0 ht1 hP
  go_enter Tryd.func81, Tryd.ntmps81
  go_wp2_with (go_at_call 105; refine HM.out.mono ?_; rintro e w1 ⟨rfl, hr, hx⟩; have HS1 := Lib.hid (HS.out t1 w1 hr HF1.out); have HX1 := Lib.hid hx; clear hr hx)
  refine HS1.out.mono ?_
  rintro e w2 ⟨m, pv, rfl, hsc, hr, hx⟩
  rw [HX0.out] at hsc hr ⊢
  simp only at hsc hr ⊢
  obtain ⟨p, rfl⟩ := hsc.ptr
  have hs1 := HX1.out.size
  have hs2 := hx.size
  have HBR := Lib.hid (BRow.one RSel_ok (w0 := w) (show RSel (Fr w1) m w2 (selL x0 (.pointer p)) x0 from hsc) (fun b (hb : w1.heap.size ≤ b) _ => by omega) (by omega) 70)
  have HRD := Lib.hid (hr.alloc (.cells (selL x0 (.pointer p)).toArray 70))
  have HEX := Lib.hid ((HX1.out.trans hx).alloc (.cells (selL x0 (.pointer p)).toArray 70))
  unfold selV
  clear hsc hr hx HS1
  go_wp2
  unfold selL at HBR HRD HEX
  go_loopg [3] t2.toks.length (fun k v wr => ∃ (t' : PSt) (l : List SelT) (css : List (List Value)) (m f : Nat), k = t'.toks.length ∧ t'.toks.length ≤ f ∧ l.length + t'.toks.length ≤ 1000001 ∧ Hid (BRow 9 70 RSel m w wr v l css) ∧ Hid (RdS g E wr t' d) ∧ Hid (Ex g w wr) ∧ Hid (d = 33 → t'.fe ≠ 0) ∧ Hid (((x0 :: (selsL E P d t2.toks.length t2).1, mustS E [93] (selsL E P d t2.toks.length t2).2) : List SelT × PSt) = (l ++ (selsL E P d f t').1, mustS E [93] (selsL E P d f t').2)))
  case atStart => exact ⟨t2, [x0], [_], m, t2.toks.length, rfl, Nat.le_refl _, by have := HMB.out; have := HTB.out; have := HLE1.out; simp; omega, HBR, HRD, HEX, HF2, Lib.hid rfl⟩
  case round =>
    clear HBR HRD HEX HF2 HF1 HMB HTB HLE1 HM HX1 hs1 hs2
    obtain ⟨t', l, css, m', f, hgk, hfl, hll, HBR, HRD, HEX, HFE, HEQ⟩ := hrel
    have HGK := Lib.hid hgk; clear hgk
    cases hb : isS [44] t' with
    | true =>
      have hd32 := is_deep hb hd HFE.out
      have hlt := is_lt (E := E) hb
      obtain ⟨f', rfl⟩ : ∃ f', f = f' + 1 := ⟨f - 1, by omega⟩
      have HEQ := Lib.hid (HEQ.out.trans (by rw [selsL_yes hb]))
      have HT := Lib.hid (take_yes g E t' d ⟨#[44]⟩ wr HRD.out (Lib.hid hb))
      have HLE2 := Lib.hid (HLE.out (nextS E t'))
      obtain ⟨x, t3, hx3⟩ : ∃ x t3, selF E P d (nextS E t') = (x, t3) := ⟨_, _, rfl⟩
      have HX3 := Lib.hid hx3
      rw [hx3] at HEQ HLE2
      simp only at HEQ HLE2
      have HLT := Lib.hid hlt
      clear hb hx3 hlt HLE
      go_wp2_with (go_at_call 83; refine HT.out.mono ?_; rintro e w4 ⟨rfl, hr, hx⟩; have HS4 := Lib.hid (HS.out (nextS E t') w4 hr (fun e => absurd e (by omega))); have HX4 := Lib.hid (HEX.out.trans hx); have HB4 := Lib.hid (HBR.out.ex RSel_ok hx hg); have hz4 := hx.size; clear hr hx)
      refine HS4.out.mono ?_
      rintro e w5 ⟨mn, pv, rfl, hsc, hr, hx⟩
      rw [HX3.out] at hsc hr ⊢
      simp only at hsc hr ⊢
      obtain ⟨p5, rfl⟩ := hsc.ptr
      have hz5 := hx.size
      have HX5 := Lib.hid (HX4.out.trans hx)
      have HB5 := Lib.hid ((HB4.out.ex RSel_ok hx hg).bel RSel_ok (bel_lit (o := .cells (selL x (.pointer p5)).toArray 70)))
      have HR5 := Lib.hid (hr.alloc (.cells (selL x (.pointer p5)).toArray 70))
      have HN5 := Lib.hid (show RSel (Fr w4) mn (w5.alloc (.cells (selL x (.pointer p5)).toArray 70)) (selL x (.pointer p5)) x from RSel_ok.keep (show RSel (Fr w4) mn w5 (selL x (.pointer p5)) x from hsc) ((Kp.id_ fun b hb _ => hb).alloc _) (Nat.le_refl _))
      have HK5 := Lib.hid (show ∀ b, Fr w4 b → b < (w5.alloc (.cells (selL x (.pointer p5)).toArray 70)).heap.size → w.heap.size ≤ b ∧ u3.ownBlock ≠ some b from fun b (hb : w4.heap.size ≤ b) _ => ⟨by have := HBR.out.size; omega, fun e => by have := (HBR.out.blk e).2; omega⟩)
      have hwz := HB5.out.size
      unfold selV
      clear hsc hr hx HS4 HB4
      go_wp2_with (at_builtin; refine wpList_append_any _ rfl (.tmp 11) (.tmp 14) 64 rfl w.heap.size 70 i0 _ 9 72 Tryd.underlying64 hi hz0 hz1 hz2 rfl (by decide) u3 l.length css.flatten rfl HB5.out.own (w5.heap.size + 1) (some ⟨w5.heap.size, 0, none⟩) 1 1 (selL x (.pointer p5)) rfl (reads_new w5 70 9 1 (selL x (.pointer p5)) rfl) (RSel_one HN5.out) (by unfold maxLen; omega) (by omega) hwz ?_; intro v' w7 hown7 hg7 hat7; have HB7 := Lib.hid (HB5.out.snoc RSel_ok HN5.out HK5.out hown7 hg7 hat7); have HR7 := Lib.hid (HR5.out.grown hg7 (fun k hk => by have := (HBR.out.blk hk).1; omega)); have HX7 := Lib.hid ((HX5.out.alloc (.cells (selL x (.pointer p5)).toArray 70)).grown hg7 (fun k hk => (HBR.out.blk hk).1)); clear hown7 hg7 hat7)
      go_roundg t3.toks.length
      case measure => have := HGK.out; have := HLT.out; have := HLE2.out; simp; omega
      case rel => exact ⟨t3, l ++ [x], _, _, f', rfl, by have := HLT.out; have := HLE2.out; omega, by have := HLT.out; have := HLE2.out; simp; omega, HB7, HR7, HX7, Lib.hid (fun e => absurd e (by omega)), Lib.hid (by rw [HEQ.out, List.append_assoc]; rfl)⟩
    | false =>
      have HT := Lib.hid (take_no g E t' d ⟨#[44]⟩ wr HRD.out (Lib.hid hb))
      have HE := Lib.hid (HEQ.out.trans (by rw [selsL_no hb, List.append_nil]))
      have HM2 := Lib.hid (must_any g E t' d ⟨#[93]⟩ wr HRD.out)
      obtain ⟨A, c, hv, _⟩ := HBR.out.done RSel_ok
      subst hv
      clear hb
      go_wp2_with (first | (go_at_call 83; refine HT.out.mono ?_; rintro e w' ⟨rfl, rfl⟩) | (go_at_call 105; refine HM2.out.mono ?_; rintro e w8 ⟨rfl, hr, hx⟩; have HB8 := Lib.hid (HBR.out.ex RSel_ok hx hg); have HR8 := Lib.hid hr; have HX8 := Lib.hid (HEX.out.trans hx); clear hr hx))
      go_ret
      obtain ⟨A', c', hv, hrow⟩ := HB8.out.done RSel_ok
      cases hv
      rw [HE.out]
      exact ⟨m', A, c, rfl, hrow, HR8.out, HX8.out⟩

end Go.Proofs.YtpcbcodmocmilaaDoor
