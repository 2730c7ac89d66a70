/- qtree: numbers, sel. -/
import Derived.Test.YtpcbcodmocmilaaGreatDoorQe0
namespace Go.Proofs.YtpcbcodmocmilaaGreatDoor
open Go.RowKit

theorem take_yes (g : Nat) (E : Int) (t : PSt) (d : Nat) (s : ByteArray) (w : World) (h : RdS g E w t d) (hb : Hid (isS s.data.toList t = true)) :
    Calls Tryz.prog 81 #[.pointer (some ⟨g, 0, none⟩), .string s] w fun e w' => e = .returned (.bool true) ∧ RdS g E w' (nextS E t) d ∧ Ex g w w' := take_any g E t d s true w h hb
set_option maxRecDepth 100000 in
set_option maxHeartbeats 1000000 in
theorem take_no (g : Nat) (E : Int) (t : PSt) (d : Nat) (s : ByteArray) (w : World) (h : RdS g E w t d) (hb : Hid (isS s.data.toList t = false)) :
    Calls Tryz.prog 81 #[.pointer (some ⟨g, 0, none⟩), .string s] w fun e w' => e = .returned (.bool false) ∧ w = w' := by
  have HI := Lib.hid (is_at s false w h hb)
  clear hb h
  go_enter Tryz.func81, Tryz.ntmps81
  go_wp2_with (go_at_call 30; refine HI.out.mono ?_; rintro e w' ⟨rfl, rfl⟩)
  go_ret
  exact ⟨rfl, rfl⟩
/-- New blocks. -/
def Fr (w : World) (b : Nat) : Prop := w.heap.size ≤ b
/-- A selector as a value. -/
def selV (x : SelT) (pv : Value) : Value := .agg #[.int .i64 x.kind, .string (bs x.name), .int .i64 x.index, .int .i64 x.fr, .int .i64 x.tt, .int .i64 x.step, .bool x.hf, .bool x.ht, pv]
def SelP (g : Nat) (E : Int) (w : World) (r : SelT × PSt) (d : Nat) (e : Ending) (w' : World) : Prop :=
  ∃ m pv, e = .returned (selV r.1 pv) ∧ SelC (Fr w) (ExR (Fr w) m w') w' (selL r.1 pv) r.1 ∧ RdS g E w' r.2 d ∧ Ex g w w'
theorem SelP.plain {g : Nat} {E : Int} {w w' : World} {r : SelT × PSt} {d : Nat} {x : SelT} {t' : PSt} (h : r = (x, t')) (hf : x.f = none) (h1 : RdS g E w' t' d) (h2 : Ex g w w') : SelP g E w r d (.returned (selV x (.pointer none))) w' := by
  subst h
  exact ⟨0, _, rfl, ⟨_, rfl, by rw [hf]; rfl⟩, h1, h2⟩
def S0 : Array Value := #[.int .i64 0, .string ⟨#[]⟩, .int .i64 0, .int .i64 0, .int .i64 0, .int .i64 0, .bool false, .bool false, .pointer none]

set_option maxRecDepth 100000 in
set_option maxHeartbeats 2000000 in
theorem numbers_any (g : Nat) (E : Int) (t : PSt) (d : Nat) (w : World) (h : RdS g E w t d) :
    Calls Tryz.prog 124 #[.pointer (some ⟨g, 0, none⟩)] w fun e w' => e = .returned (selV (numbersS E t).1 (.pointer none)) ∧ (numbersS E t).1.f = none ∧ RdS g E w' (numbersS E t).2 d ∧ Ex g w w' := by
  have hg := h.lt
  have HN1 := Lib.hid (number_any g E t d _ (h.alloc (.cells #[.int .i64 0, .string ⟨#[]⟩, .int .i64 0, .int .i64 0, .int .i64 0, .int .i64 0, .bool false, .bool false, .pointer none] 47)))
  have HX0 := Lib.hid (show Ex g w (w.alloc (.cells #[.int .i64 0, .string ⟨#[]⟩, .int .i64 0, .int .i64 0, .int .i64 0, .int .i64 0, .bool false, .bool false, .pointer none] 47)) from (Ex.refl g w).alloc _)
  have HB0 := Lib.hid (Blk.new w 47 #[.int .i64 0, .string ⟨#[]⟩, .int .i64 0, .int .i64 0, .int .i64 0, .int .i64 0, .bool false, .bool false, .pointer none])
  obtain ⟨n, ok, t1, ht1⟩ : ∃ n ok t1, numS E t = (n, ok, t1) := ⟨_, _, _, rfl⟩
  rw [ht1] at HN1
  simp only at HN1
  cases hb : isS [58] t1 with
  | false =>
    have HE := Lib.hid (show numbersS E t = (⟨2, [], n, 0, 0, 0, false, false, none⟩, t1) by unfold numbersS; rw [ht1]; simp only; rw [if_neg (by rw [hb]; decide)])
    clear ht1 h
    go_enter Tryz.func124, Tryz.ntmps124
    go_wp2_with (first
      | (go_at_call 137; refine HN1.out.mono ?_; rintro e w1 ⟨rfl, hr, hx⟩; have HR1 := Lib.hid hr; have HX1 := Lib.hid (HX0.out.trans hx); have HB1 := Lib.hid (HB0.out.ex hx (by omega)); have HT := Lib.hid (take_no g E t1 d ⟨#[58]⟩ w1 hr (Lib.hid hb)); clear hr hx; obtain ⟨z, ⟨d0, d1, d2, d3, d4, d5, d6, d7, d8⟩, ⟨f0, f1, f2, f3, f4, f5, f6, f7, f8⟩⟩ := HB1.out.c9)
      | (go_at_call 81; refine HT.out.mono ?_; rintro e w' ⟨rfl, rfl⟩))
    rw [HE.out]
    exact bodyPost_ret (v := selV ⟨2, [], n, 0, 0, 0, false, false, none⟩ (.pointer none)) (by simp [results, Tryz.results124, go_sem, selV, bs, d0, d1, d2, d3, d4, d5, d6, d7, d8]) rfl ⟨rfl, rfl, HR1.out.far9 hg, HX1.out.far9 (Nat.le_refl _)⟩
  | true =>
    obtain ⟨m, has, t3, ht2⟩ : ∃ m has t3, numS E (nextS E t1) = (m, has, t3) := ⟨_, _, _, rfl⟩
    cases hb3 : isS [58] t3 with
    | false =>
      have HE := Lib.hid (show numbersS E t = (⟨3, [], 0, n, m, 1, ok, has, none⟩, t3) by unfold numbersS num2S; rw [ht1]; simp only; rw [if_pos hb, ht2]; simp only; rw [if_neg (by rw [hb3]; decide)])
      have HI3 := Lib.hid hb3
      clear ht1 h hb3
      go_enter Tryz.func124, Tryz.ntmps124
      go_wp2_with (first
        | (go_at_call 137; (with_reducible refine HN1.out.mono ?_); rintro e w1 ⟨rfl, hr, hx⟩; have HX1 := Lib.hid (HX0.out.trans hx); have HB1 := Lib.hid (HB0.out.ex hx (by omega)); have HT1 := Lib.hid (take_yes g E t1 d ⟨#[58]⟩ w1 hr (Lib.hid hb)); clear hr hx)
        | (go_at_call 81; (with_reducible refine HT1.out.mono ?_); rintro e w2 ⟨rfl, hr, hx⟩; have HX2 := Lib.hid (HX1.out.trans hx); have HB2 := Lib.hid (HB1.out.ex hx (by omega)); have hz2 := HX2.out.size; have HX2a := Lib.hid (HX2.out.alloc (.cells #[.int .i64 3, .string ⟨#[]⟩, .int .i64 0, .int .i64 n, .int .i64 0, .int .i64 1, .bool ok, .bool false, .pointer none] 47)); have HB2a := Lib.hid (HB2.out.alloc (.cells #[.int .i64 3, .string ⟨#[]⟩, .int .i64 0, .int .i64 n, .int .i64 0, .int .i64 1, .bool ok, .bool false, .pointer none] 47)); have HS2a := Lib.hid (Blk.new w2 47 #[.int .i64 3, .string ⟨#[]⟩, .int .i64 0, .int .i64 n, .int .i64 0, .int .i64 1, .bool ok, .bool false, .pointer none]); have HN2 := Lib.hid (number_any g E (nextS E t1) d _ (hr.alloc (.cells #[.int .i64 3, .string ⟨#[]⟩, .int .i64 0, .int .i64 n, .int .i64 0, .int .i64 1, .bool ok, .bool false, .pointer none] 47))); rw [ht2] at HN2; simp only at HN2; clear hr hx)
        | (go_at_call 137; (with_reducible refine HN2.out.mono ?_); rintro e w3 ⟨rfl, hr, hx⟩; have HR3 := Lib.hid hr; have HX3 := Lib.hid (HX2a.out.trans hx); have HB3 := Lib.hid (HB2a.out.ex hx (by omega)); have HS3 := Lib.hid (HS2a.out.ex hx (by omega)); have HR4 := Lib.hid ((hr.far (p := ⟨w2.heap.size, 4, none⟩) (by show g < w2.heap.size; omega) (.int .i64 m)).far (p := ⟨w2.heap.size, 7, none⟩) (by show g < w2.heap.size; omega) (.bool has)); have HX4 := Lib.hid (((HX2a.out.trans hx).set_ (p := ⟨w2.heap.size, 4, none⟩) (.inr hz2) (.int .i64 m)).set_ (p := ⟨w2.heap.size, 7, none⟩) (.inr hz2) (.bool has)); clear hr hx; obtain ⟨zd, ⟨d0, d1, d2, d3, d4, d5, d6, d7, d8⟩, ⟨fd0, fd1, fd2, fd3, fd4, fd5, fd6, fd7, fd8⟩⟩ := HB3.out.c9; obtain ⟨ze, ⟨e0, e1, e2, e3, e4, e5, e6, e7, e8⟩, ⟨fe0, fe1, fe2, fe3, fe4, fe5, fe6, fe7, fe8⟩⟩ := HS3.out.c9; have hne : w.heap.size ≠ w2.heap.size := by have := HB2.out.lt; omega)
        | (go_at_call 81; refine (take_no g E t3 d ⟨#[58]⟩ _ HR4.out HI3).mono ?_; rintro e w' ⟨rfl, rfl⟩))
      rw [HE.out]
      exact bodyPost_ret (v := selV ⟨3, [], 0, n, m, 1, ok, has, none⟩ (.pointer none)) (by simp [results, Tryz.results124, go_sem, selV, bs, d0, d1, d2, d3, d4, d5, d6, d7, d8]) rfl ⟨rfl, rfl, HR4.out.far9 hg, HX4.out.far9 (Nat.le_refl _)⟩
    | true =>
      obtain ⟨k, is, t5, ht4⟩ : ∃ k is t5, numS E (nextS E t3) = (k, is, t5) := ⟨_, _, _, rfl⟩
      have HE := Lib.hid (show numbersS E t = (⟨3, [], 0, n, m, if is then k else 1, ok, has, none⟩, t5) by unfold numbersS num2S; rw [ht1]; simp only; rw [if_pos hb, ht2]; simp only; rw [if_pos hb3, ht4])
      have HI3 := Lib.hid hb3
      clear ht1 h hb3
      cases is with
      | true =>
        go_enter Tryz.func124, Tryz.ntmps124
        go_wp2_with (first
          | (go_at_call 137; (with_reducible refine HN1.out.mono ?_); rintro e w1 ⟨rfl, hr, hx⟩; have HX1 := Lib.hid (HX0.out.trans hx); have HB1 := Lib.hid (HB0.out.ex hx (by omega)); have HT1 := Lib.hid (take_yes g E t1 d ⟨#[58]⟩ w1 hr (Lib.hid hb)); clear hr hx)
          | (go_at_call 81; (with_reducible refine HT1.out.mono ?_); rintro e w2 ⟨rfl, hr, hx⟩; have HX2 := Lib.hid (HX1.out.trans hx); have HB2 := Lib.hid (HB1.out.ex hx (by omega)); have hz2 := HX2.out.size; have HX2a := Lib.hid (HX2.out.alloc (.cells #[.int .i64 3, .string ⟨#[]⟩, .int .i64 0, .int .i64 n, .int .i64 0, .int .i64 1, .bool ok, .bool false, .pointer none] 47)); have HB2a := Lib.hid (HB2.out.alloc (.cells #[.int .i64 3, .string ⟨#[]⟩, .int .i64 0, .int .i64 n, .int .i64 0, .int .i64 1, .bool ok, .bool false, .pointer none] 47)); have HS2a := Lib.hid (Blk.new w2 47 #[.int .i64 3, .string ⟨#[]⟩, .int .i64 0, .int .i64 n, .int .i64 0, .int .i64 1, .bool ok, .bool false, .pointer none]); have HN2 := Lib.hid (number_any g E (nextS E t1) d _ (hr.alloc (.cells #[.int .i64 3, .string ⟨#[]⟩, .int .i64 0, .int .i64 n, .int .i64 0, .int .i64 1, .bool ok, .bool false, .pointer none] 47))); rw [ht2] at HN2; simp only at HN2; clear hr hx))
        (with_reducible refine HN2.out.mono ?_)
        rintro e w3 ⟨rfl, hr, hx⟩
        have HR3 := Lib.hid hr
        have HX3 := Lib.hid (HX2a.out.trans hx)
        have HB3 := Lib.hid (HB2a.out.ex hx (by omega))
        have HS3 := Lib.hid (HS2a.out.ex hx (by omega))
        have HR4 := Lib.hid ((hr.far (p := ⟨w2.heap.size, 4, none⟩) (by show g < w2.heap.size; omega) (.int .i64 m)).far (p := ⟨w2.heap.size, 7, none⟩) (by show g < w2.heap.size; omega) (.bool has))
        have HX4 := Lib.hid (((HX2a.out.trans hx).set_ (p := ⟨w2.heap.size, 4, none⟩) (.inr hz2) (.int .i64 m)).set_ (p := ⟨w2.heap.size, 7, none⟩) (.inr hz2) (.bool has))
        clear hr hx
        have hne : w.heap.size ≠ w2.heap.size := by (have := HB2.out.lt; omega)
        obtain ⟨zd, ⟨d0, d1, d2, d3, d4, d5, d6, d7, d8⟩, ⟨fd0, fd1, fd2, fd3, fd4, fd5, fd6, fd7, fd8⟩⟩ := HB3.out.c9
        obtain ⟨ze, ⟨e0, e1, e2, e3, e4, e5, e6, e7, e8⟩, ⟨fe0, fe1, fe2, fe3, fe4, fe5, fe6, fe7, fe8⟩⟩ := HS3.out.c9
        have HB4 := Lib.hid ((HB3.out.far (p := ⟨w2.heap.size, 4, none⟩) hne (.int .i64 m)).far (p := ⟨w2.heap.size, 7, none⟩) hne (.bool has))
        have HS4 := Lib.hid (show Blk ((w3.setCell ⟨w2.heap.size, 4, none⟩ (.int .i64 m)).setCell ⟨w2.heap.size, 7, none⟩ (.bool has)) w2.heap.size 47 #[.int .i64 3, .string ⟨#[]⟩, .int .i64 0, .int .i64 n, .int .i64 m, .int .i64 1, .bool ok, .bool has, .pointer none] from (HS3.out.set_ 4 _).set_ 7 _)
        have hz4 := HX4.out.size
        go_wp2_with (first
          | (go_at_call 81; (with_reducible refine (take_yes g E t3 d ⟨#[58]⟩ _ HR4.out HI3).mono ?_); rintro e w5 ⟨rfl, hr, hx⟩; have HX5 := Lib.hid (HX4.out.trans hx); have HB5 := Lib.hid (HB4.out.ex hx (by omega)); have HS5 := Lib.hid (HS4.out.ex hx (by omega)); have HN5 := Lib.hid (number_any g E (nextS E t3) d w5 hr); rw [ht4] at HN5; simp only at HN5; clear hr hx)
          | (go_at_call 137; (with_reducible refine HN5.out.mono ?_); rintro e w6 ⟨rfl, hr, hx⟩; have HR6 := Lib.hid hr; have HX6 := Lib.hid (HX5.out.trans hx); have HB6 := Lib.hid (HB5.out.ex hx (by omega)); have HS6 := Lib.hid (HS5.out.ex hx (by omega)); clear hr hx; clear zd d0 d1 d2 d3 d4 d5 d6 d7 d8 fd0 fd1 fd2 fd3 fd4 fd5 fd6 fd7 fd8 ze e0 e1 e2 e3 e4 e5 e6 e7 e8 fe0 fe1 fe2 fe3 fe4 fe5 fe6 fe7 fe8; obtain ⟨zd, ⟨d0, d1, d2, d3, d4, d5, d6, d7, d8⟩, ⟨fd0, fd1, fd2, fd3, fd4, fd5, fd6, fd7, fd8⟩⟩ := HB6.out.c9; obtain ⟨ze, ⟨e0, e1, e2, e3, e4, e5, e6, e7, e8⟩, ⟨fe0, fe1, fe2, fe3, fe4, fe5, fe6, fe7, fe8⟩⟩ := HS6.out.c9))
        rw [HE.out]
        exact bodyPost_ret (v := selV ⟨3, [], 0, n, m, k, ok, has, none⟩ (.pointer none)) (by simp [results, Tryz.results124, go_sem, selV, bs, d0, d1, d2, d3, d4, d5, d6, d7, d8]) rfl ⟨rfl, rfl, (HR6.out.far (p := ⟨w2.heap.size, 5, none⟩) (by show g < w2.heap.size; omega) _).far9 hg, (HX6.out.set_ (p := ⟨w2.heap.size, 5, none⟩) (.inr hz2) _).far9 (Nat.le_refl _)⟩
      | false =>
        go_enter Tryz.func124, Tryz.ntmps124
        go_wp2_with (first
          | (go_at_call 137; (with_reducible refine HN1.out.mono ?_); rintro e w1 ⟨rfl, hr, hx⟩; have HX1 := Lib.hid (HX0.out.trans hx); have HB1 := Lib.hid (HB0.out.ex hx (by omega)); have HT1 := Lib.hid (take_yes g E t1 d ⟨#[58]⟩ w1 hr (Lib.hid hb)); clear hr hx)
          | (go_at_call 81; (with_reducible refine HT1.out.mono ?_); rintro e w2 ⟨rfl, hr, hx⟩; have HX2 := Lib.hid (HX1.out.trans hx); have HB2 := Lib.hid (HB1.out.ex hx (by omega)); have hz2 := HX2.out.size; have HX2a := Lib.hid (HX2.out.alloc (.cells #[.int .i64 3, .string ⟨#[]⟩, .int .i64 0, .int .i64 n, .int .i64 0, .int .i64 1, .bool ok, .bool false, .pointer none] 47)); have HB2a := Lib.hid (HB2.out.alloc (.cells #[.int .i64 3, .string ⟨#[]⟩, .int .i64 0, .int .i64 n, .int .i64 0, .int .i64 1, .bool ok, .bool false, .pointer none] 47)); have HS2a := Lib.hid (Blk.new w2 47 #[.int .i64 3, .string ⟨#[]⟩, .int .i64 0, .int .i64 n, .int .i64 0, .int .i64 1, .bool ok, .bool false, .pointer none]); have HN2 := Lib.hid (number_any g E (nextS E t1) d _ (hr.alloc (.cells #[.int .i64 3, .string ⟨#[]⟩, .int .i64 0, .int .i64 n, .int .i64 0, .int .i64 1, .bool ok, .bool false, .pointer none] 47))); rw [ht2] at HN2; simp only at HN2; clear hr hx))
        (with_reducible refine HN2.out.mono ?_)
        rintro e w3 ⟨rfl, hr, hx⟩
        have HR3 := Lib.hid hr
        have HX3 := Lib.hid (HX2a.out.trans hx)
        have HB3 := Lib.hid (HB2a.out.ex hx (by omega))
        have HS3 := Lib.hid (HS2a.out.ex hx (by omega))
        have HR4 := Lib.hid ((hr.far (p := ⟨w2.heap.size, 4, none⟩) (by show g < w2.heap.size; omega) (.int .i64 m)).far (p := ⟨w2.heap.size, 7, none⟩) (by show g < w2.heap.size; omega) (.bool has))
        have HX4 := Lib.hid (((HX2a.out.trans hx).set_ (p := ⟨w2.heap.size, 4, none⟩) (.inr hz2) (.int .i64 m)).set_ (p := ⟨w2.heap.size, 7, none⟩) (.inr hz2) (.bool has))
        clear hr hx
        have hne : w.heap.size ≠ w2.heap.size := by (have := HB2.out.lt; omega)
        obtain ⟨zd, ⟨d0, d1, d2, d3, d4, d5, d6, d7, d8⟩, ⟨fd0, fd1, fd2, fd3, fd4, fd5, fd6, fd7, fd8⟩⟩ := HB3.out.c9
        obtain ⟨ze, ⟨e0, e1, e2, e3, e4, e5, e6, e7, e8⟩, ⟨fe0, fe1, fe2, fe3, fe4, fe5, fe6, fe7, fe8⟩⟩ := HS3.out.c9
        have HB4 := Lib.hid ((HB3.out.far (p := ⟨w2.heap.size, 4, none⟩) hne (.int .i64 m)).far (p := ⟨w2.heap.size, 7, none⟩) hne (.bool has))
        have HS4 := Lib.hid (show Blk ((w3.setCell ⟨w2.heap.size, 4, none⟩ (.int .i64 m)).setCell ⟨w2.heap.size, 7, none⟩ (.bool has)) w2.heap.size 47 #[.int .i64 3, .string ⟨#[]⟩, .int .i64 0, .int .i64 n, .int .i64 m, .int .i64 1, .bool ok, .bool has, .pointer none] from (HS3.out.set_ 4 _).set_ 7 _)
        have hz4 := HX4.out.size
        go_wp2_with (first
          | (go_at_call 81; (with_reducible refine (take_yes g E t3 d ⟨#[58]⟩ _ HR4.out HI3).mono ?_); rintro e w5 ⟨rfl, hr, hx⟩; have HX5 := Lib.hid (HX4.out.trans hx); have HB5 := Lib.hid (HB4.out.ex hx (by omega)); have HS5 := Lib.hid (HS4.out.ex hx (by omega)); have HN5 := Lib.hid (number_any g E (nextS E t3) d w5 hr); rw [ht4] at HN5; simp only at HN5; clear hr hx)
          | (go_at_call 137; (with_reducible refine HN5.out.mono ?_); rintro e w6 ⟨rfl, hr, hx⟩; have HR6 := Lib.hid hr; have HX6 := Lib.hid (HX5.out.trans hx); have HB6 := Lib.hid (HB5.out.ex hx (by omega)); have HS6 := Lib.hid (HS5.out.ex hx (by omega)); clear hr hx; clear zd d0 d1 d2 d3 d4 d5 d6 d7 d8 fd0 fd1 fd2 fd3 fd4 fd5 fd6 fd7 fd8 ze e0 e1 e2 e3 e4 e5 e6 e7 e8 fe0 fe1 fe2 fe3 fe4 fe5 fe6 fe7 fe8; obtain ⟨zd, ⟨d0, d1, d2, d3, d4, d5, d6, d7, d8⟩, ⟨fd0, fd1, fd2, fd3, fd4, fd5, fd6, fd7, fd8⟩⟩ := HB6.out.c9; obtain ⟨ze, ⟨e0, e1, e2, e3, e4, e5, e6, e7, e8⟩, ⟨fe0, fe1, fe2, fe3, fe4, fe5, fe6, fe7, fe8⟩⟩ := HS6.out.c9))
        rw [HE.out]
        exact bodyPost_ret (v := selV ⟨3, [], 0, n, m, 1, ok, has, none⟩ (.pointer none)) (by simp [results, Tryz.results124, go_sem, selV, bs, d0, d1, d2, d3, d4, d5, d6, d7, d8]) rfl ⟨rfl, rfl, HR6.out.far9 hg, HX6.out.far9 (Nat.le_refl _)⟩

end Go.Proofs.YtpcbcodmocmilaaGreatDoor
