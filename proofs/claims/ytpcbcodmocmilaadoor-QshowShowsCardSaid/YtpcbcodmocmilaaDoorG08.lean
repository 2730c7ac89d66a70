/- G08: Ya, Qc, Qd, Qe0 joined. -/
import Derived.Test.YtpcbcodmocmilaaDoorQb
import Derived.Test.YtpcbcodmocmilaaDoorG05
import Derived.Test.YtpcbcodmocmilaaDoorG07
namespace Go.Proofs.YtpcbcodmocmilaaDoor
open Go.RowKit
/- ref17: the reader; over, at, kind, is, fail, form, next. -/
section
open Go.RowKit

/-- The reader as a value: all tokens, and which one is next. -/
abbrev rv (A : Option Addr) (n c : Nat) (k : Nat) (E : Int) (t : PSt) (dp : Int) : Value := .agg #[.slice A n c, .int .i64 (k : Int), .int .i64 E, .int .i64 t.fe, .int .i64 t.fa, .int .i64 dp]
structure RIn (all : List TokD) (k : Nat) (t : PSt) : Prop where
  eq : t.toks = all.drop k
  le : k ≤ all.length
  bd : all.length ≤ 4096
theorem RIn.ov {all : List TokD} {k : Nat} {t : PSt} (h : RIn all k t) : ovS t = (decide (t.fe ≠ 0) || decide (all.length ≤ k)) := by
  unfold ovS
  rw [h.eq]
  congr 1
  · by_cases hf : t.fe = 0 <;> simp [hf]
  · rw [Bool.eq_iff_iff]; simp
theorem RIn.head {all : List TokD} {k : Nat} {t : PSt} (h : RIn all k t) (hk : k < all.length) : ∃ x, all[k]? = some x ∧ t.toks = x :: all.drop (k + 1) := by
  refine ⟨all[k], List.getElem?_eq_getElem hk, ?_⟩
  rw [h.eq, List.drop_eq_getElem_cons hk]
theorem RIn.nil {all : List TokD} {k : Nat} {t : PSt} (h : RIn all k t) (hk : all.length ≤ k) : t.toks = [] := by rw [h.eq]; exact List.drop_of_length_le hk
theorem RIn.ov_no {all : List TokD} {k : Nat} {t : PSt} (h : RIn all k t) (ho : ovS t = false) : k < all.length ∧ t.fe = 0 := by
  rw [h.ov] at ho
  simp at ho
  omega
/-- A token in memory. -/
theorem TkR.at_ {w : World} {A : Option Addr} {all : List TokD} {k : Nat} {x : TokD} (h : TkR w A all) (hx : all[k]? = some x) : ∃ b off, A = some ⟨b, off, none⟩ ∧ b < w.heap.size ∧ w.cell? ⟨b, off + k * 5, none⟩ = some (.int .i64 x.kind) ∧ w.cell? ⟨b, off + k * 5 + 1, none⟩ = some (.string (bs x.s)) ∧ w.cell? ⟨b, off + k * 5 + 2, none⟩ = some (.int .i64 x.n) ∧ w.cell? ⟨b, off + k * 5 + 3, none⟩ = some (.int .i64 (x.at_ : Nat)) ∧ w.cell? ⟨b, off + k * 5 + 4, none⟩ = some (.bool x.gap) := by
  obtain ⟨b, off, e, hlt, hc⟩ := h.resolve_left (by intro e; rw [e] at hx; simp at hx)
  exact ⟨b, off, e, hlt, hc k x hx⟩
theorem RIn.hd {all : List TokD} {k : Nat} {t : PSt} {x : TokD} (h : RIn all k t) (hx : all[k]? = some x) (hf : t.fe = 0) : hdT t = x := by
  have hk : k < all.length := (List.getElem?_eq_some_iff.1 hx).1
  obtain ⟨y, hy, ht⟩ := h.head hk
  rw [hx] at hy
  cases hy
  unfold hdT
  rw [if_pos hf, ht]
theorem rbs_tl (l : List UInt8) : (bs l).toList = l := by simp [bs]

section
variable (A : Option Addr) (all : List TokD) (c k : Nat) (E : Int) (t : PSt) (dp : Int) (w : World)

set_option maxRecDepth 100000 in
set_option maxHeartbeats 1000000 in
theorem rover_any (h : RIn all k t) : Calls Tryd.prog 16 #[rv A all.length c k E t dp] w fun e w' => e = .returned (.bool (ovS t)) ∧ Bel w.heap.size w w' := by
  have HE := Lib.hid h.ov
  obtain ⟨fe, hfe⟩ : ∃ fe, t.fe = fe := ⟨_, rfl⟩
  have hk := h.bd
  have hl := h.le
  unfold rv
  rw [hfe] at HE ⊢
  clear h
  by_cases hf : fe = 0
  · have hf' : (fe != 0) = false := by rw [hf]; rfl
    have HF := Lib.hid hf
    clear hf
    go_enter Tryd.func16, Tryd.ntmps16
    go_wp2
    go_ret
    exact ⟨ret_bool (by rw [HE.out, Bool.eq_iff_iff]; simp [HF.out]), Bel.of (by (repeat' (first | (with_reducible exact Below.refl _ _) | (with_reducible refine Below.trans ?_ (below_drewN _ _ _)) | (with_reducible refine Below.alloc ?_ ?_ _) | (with_reducible refine Below.setCell ?_ ?_ _) | (with_reducible refine Below.drew ?_) | go_size)))⟩
  · have hf' : (fe != 0) = true := bne_iff_ne.2 hf
    have HF := Lib.hid hf
    clear hf
    go_enter Tryd.func16, Tryd.ntmps16
    go_wp2
    go_ret
    exact ⟨ret_bool (by rw [HE.out, Bool.eq_iff_iff]; simp [HF.out]), Bel.of (by (repeat' (first | (with_reducible exact Below.refl _ _) | (with_reducible refine Below.trans ?_ (below_drewN _ _ _)) | (with_reducible refine Below.alloc ?_ ?_ _) | (with_reducible refine Below.setCell ?_ ?_ _) | (with_reducible refine Below.drew ?_) | go_size)))⟩
theorem rover_at (b : Bool) (h : RIn all k t) (hb : Hid (ovS t = b)) : Calls Tryd.prog 16 #[rv A all.length c k E t dp] w fun e w' => e = .returned (.bool b) ∧ Bel w.heap.size w w' := by
  rw [← hb.out]; exact rover_any A all c k E t dp w h

set_option maxRecDepth 100000 in
set_option maxHeartbeats 1000000 in
theorem rat_any (h : RIn all k t) (hT : TkR w A all) : Calls Tryd.prog 26 #[rv A all.length c k E t dp] w fun e w' => e = .returned (.int .i64 (atS E t)) ∧ Bel w.heap.size w w' := by
  have hk := h.bd
  unfold rv
  rcases Nat.lt_or_ge k all.length with hlt | hge
  · obtain ⟨x, hx, ht⟩ := h.head hlt
    obtain ⟨b, off, rfl, hb, d0, d1, d2, d3, d4⟩ := hT.at_ hx
    have HE := Lib.hid (show atS E t = (x.at_ : Nat) by unfold atS; rw [ht])
    have hlt2 : (k : Int) < (all.length : Int) := by omega
    clear h hT ht hx
    go_enter Tryd.func26, Tryd.ntmps26
    go_wp2
    go_ret
    exact ⟨ret_int (by rw [HE.out]), Bel.of (by (repeat' (first | (with_reducible exact Below.refl _ _) | (with_reducible refine Below.trans ?_ (below_drewN _ _ _)) | (with_reducible refine Below.alloc ?_ ?_ _) | (with_reducible refine Below.setCell ?_ ?_ _) | (with_reducible refine Below.drew ?_) | go_size)))⟩
  · have HE := Lib.hid (show atS E t = E by unfold atS; rw [h.nil hge])
    have hge2 : (all.length : Int) ≤ (k : Int) := by omega
    clear h hT
    go_enter Tryd.func26, Tryd.ntmps26
    go_wp2
    go_ret
    exact ⟨ret_int (by rw [HE.out]), Bel.of (by (repeat' (first | (with_reducible exact Below.refl _ _) | (with_reducible refine Below.trans ?_ (below_drewN _ _ _)) | (with_reducible refine Below.alloc ?_ ?_ _) | (with_reducible refine Below.setCell ?_ ?_ _) | (with_reducible refine Below.drew ?_) | go_size)))⟩

set_option maxRecDepth 100000 in
set_option maxHeartbeats 1000000 in
theorem rkind_any (h : RIn all k t) (hT : TkR w A all) : Calls Tryd.prog 24 #[rv A all.length c k E t dp] w fun e w' => e = .returned (.int .i64 (kindS t)) ∧ Bel w.heap.size w w' := by
  have hk := h.bd
  cases ho : ovS t with
  | true =>
    have HO := Lib.hid (fun w => rover_at A all c k E t dp w true h (Lib.hid ho))
    have HE := Lib.hid (show kindS t = 0 by
      rw [h.ov] at ho
      unfold kindS hdT
      by_cases hf : t.fe = 0
      · have hge : all.length ≤ k := by simpa [hf] using ho
        rw [if_pos hf, h.nil hge]; rfl
      · rw [if_neg hf]; rfl)
    clear ho h hT
    go_enter Tryd.func24, Tryd.ntmps24
    go_wp2_with (go_at_call 16; refine (HO.out _).mono ?_; rintro e w1 ⟨rfl, hb⟩; have HB := Lib.hid hb; clear hb)
    go_ret
    exact ⟨ret_int (by rw [HE.out]), by first | exact ((Bel.refl _ _).alloc (Nat.le_refl _) _).next HB.out⟩
  | false =>
    have HO := Lib.hid (fun w => rover_at A all c k E t dp w false h (Lib.hid ho))
    obtain ⟨hlt, hf⟩ := h.ov_no ho
    obtain ⟨x, hx, -⟩ := h.head hlt
    obtain ⟨b, off, rfl, hb, d0, d1, d2, d3, d4⟩ := hT.at_ hx
    have HE := Lib.hid (show kindS t = x.kind by unfold kindS; rw [h.hd hx hf])
    have hlt2 : (k : Int) < (all.length : Int) := by omega
    have HW := Lib.hid ((Bel.refl w.heap.size w).alloc (Nat.le_refl _) (.cells #[.slice (some ⟨b, off, none⟩) all.length c, .int .i64 (k : Int), .int .i64 E, .int .i64 t.fe, .int .i64 t.fa, .int .i64 dp] 52))
    clear ho h hT hx hf
    go_enter Tryd.func24, Tryd.ntmps24
    go_wp2_with (go_at_call 16; refine (HO.out _).mono ?_; rintro e w1 ⟨rfl, hb2⟩; have HB := Lib.hid (HW.out.next hb2); have e0 := (HB.out.cell (p := ⟨b, off + k * 5, none⟩) hb).trans d0; have HK := Lib.hid ((Blk.new w 52 #[.slice (some ⟨b, off, none⟩) all.length c, .int .i64 (k : Int), .int .i64 E, .int .i64 t.fe, .int .i64 t.fa, .int .i64 dp]).bel hb2 (by simp)); have q0 := HK.out.cell 0; have q1 := HK.out.cell 1; simp only [List.getElem?_toArray, List.getElem?_cons_zero, List.getElem?_cons_succ] at q0 q1; have q9 := HK.out.lt; clear hb2)
    go_ret
    exact ⟨ret_int (by rw [HE.out]), HB.out⟩
theorem rkind_at (q : Int) (h : RIn all k t) (hT : TkR w A all) (hb : Hid (kindS t = q)) : Calls Tryd.prog 24 #[rv A all.length c k E t dp] w fun e w' => e = .returned (.int .i64 q) ∧ Bel w.heap.size w w' := by
  rw [← hb.out]; exact rkind_any A all c k E t dp w h hT

set_option maxRecDepth 100000 in
set_option maxHeartbeats 1000000 in
theorem ris_any (s : ByteArray) (h : RIn all k t) (hT : TkR w A all) : Calls Tryd.prog 13 #[rv A all.length c k E t dp, .string s] w fun e w' => e = .returned (.bool (isS s.data.toList t)) ∧ Bel w.heap.size w w' := by
  obtain ⟨q, hq⟩ : ∃ q, kindS t = q := ⟨_, rfl⟩
  have hbd := h.bd
  have HW := Lib.hid ((Bel.refl w.heap.size w).alloc (Nat.le_refl _) (.cells #[.slice A all.length c, .int .i64 (k : Int), .int .i64 E, .int .i64 t.fe, .int .i64 t.fa, .int .i64 dp] 52))
  have HK := Lib.hid (rkind_at A all c k E t dp _ q h (hT.bel HW.out) (Lib.hid hq))
  by_cases h1 : q = 1
  · have hq1 : (q == 1) = true := by rw [h1]; rfl
    have hov : ovS t = false := by
      cases h9 : ovS t with
      | false => rfl
      | true =>
        rw [h.ov] at h9
        unfold kindS hdT at hq
        by_cases hf : t.fe = 0
        · have hge : all.length ≤ k := by simpa [hf] using h9
          rw [if_pos hf, h.nil hge] at hq
          simp [tok0] at hq; omega
        · rw [if_neg hf] at hq
          simp [tok0] at hq; omega
    obtain ⟨hlt, hf⟩ := h.ov_no hov
    obtain ⟨x, hx, -⟩ := h.head hlt
    obtain ⟨b, off, rfl, hb, d0, d1, d2, d3, d4⟩ := hT.at_ hx
    have HE := Lib.hid (show isS s.data.toList t = ((bs x.s).toList == s.toList) by
      unfold isS
      rw [hq, h.hd hx hf]
      have : ((bs x.s).toList == s.toList) = (x.s == s.data.toList) := by
        rw [rbs_tl, ByteArray.toList_eq]
      rw [this]; simp [h1])
    have hlt2 : (k : Int) < (all.length : Int) := by omega
    clear h hT hov hf hx hq h1
    go_enter Tryd.func13, Tryd.ntmps13
    go_wp2_with (go_at_call 24; refine HK.out.mono ?_; rintro e w1 ⟨rfl, hb2⟩; have HB := Lib.hid (HW.out.next hb2); have e1 := (HB.out.cell (p := ⟨b, off + k * 5 + 1, none⟩) hb).trans d1; have HC := Lib.hid ((Blk.new w 52 #[.slice (some ⟨b, off, none⟩) all.length c, .int .i64 (k : Int), .int .i64 E, .int .i64 t.fe, .int .i64 t.fa, .int .i64 dp]).bel hb2 (by simp)); have q0 := HC.out.cell 0; have q1 := HC.out.cell 1; simp only [List.getElem?_toArray, List.getElem?_cons_zero, List.getElem?_cons_succ] at q0 q1; have q9 := HC.out.lt; clear hb2)
    go_ret
    exact ⟨ret_bool (by rw [HE.out]), HB.out⟩
  · have hq1 : (q == 1) = false := by rw [beq_eq_false_iff_ne]; exact h1
    have HE := Lib.hid (show isS s.data.toList t = false by unfold isS; rw [hq]; simp [h1])
    clear h hT hq h1
    go_enter Tryd.func13, Tryd.ntmps13
    go_wp2_with (go_at_call 24; refine HK.out.mono ?_; rintro e w1 ⟨rfl, hb2⟩; have HB := Lib.hid (HW.out.next hb2); clear hb2)
    go_ret
    exact ⟨ret_bool (by rw [HE.out]), HB.out⟩
theorem ris_at (s : ByteArray) (b : Bool) (h : RIn all k t) (hT : TkR w A all) (hb : Hid (isS s.data.toList t = b)) : Calls Tryd.prog 13 #[rv A all.length c k E t dp, .string s] w fun e w' => e = .returned (.bool b) ∧ Bel w.heap.size w w' := by
  rw [← hb.out]; exact ris_any A all c k E t dp w s h hT

set_option maxRecDepth 100000 in
set_option maxHeartbeats 1000000 in
theorem rfail_any (a e : Int) : Calls Tryd.prog 25 #[rv A all.length c k E t dp, .int .i64 a, .int .i64 e] w fun e' w' => e' = .returned (rv A all.length c k E (failS a e t) dp) ∧ Bel w.heap.size w w' := by
  obtain ⟨toks, fe, fa⟩ := t
  by_cases hf : fe = 0
  · have hf' : (fe == 0) = true := by rw [hf]; rfl
    have HE := Lib.hid (show failS a e ⟨toks, fe, fa⟩ = ⟨toks, e, a⟩ by unfold failS; rw [if_pos hf])
    clear hf
    go_enter Tryd.func25, Tryd.ntmps25
    go_wp2
    rw [HE.out]
    exact bodyPost_ret (v := rv A all.length c k E ⟨toks, e, a⟩ dp) (by simp [results, Tryd.results25, go_sem]) rfl ⟨rfl, Bel.of (by (repeat' (first | (with_reducible exact Below.refl _ _) | (with_reducible refine Below.trans ?_ (below_drewN _ _ _)) | (with_reducible refine Below.alloc ?_ ?_ _) | (with_reducible refine Below.setCell ?_ ?_ _) | (with_reducible refine Below.drew ?_) | go_size)))⟩
  · have hf' : (fe == 0) = false := by rw [beq_eq_false_iff_ne]; exact hf
    have HE := Lib.hid (show failS a e ⟨toks, fe, fa⟩ = ⟨toks, fe, fa⟩ by unfold failS; rw [if_neg hf])
    clear hf
    go_enter Tryd.func25, Tryd.ntmps25
    go_wp2
    rw [HE.out]
    exact bodyPost_ret (v := rv A all.length c k E ⟨toks, fe, fa⟩ dp) (by simp [results, Tryd.results25, go_sem]) rfl ⟨rfl, Bel.of (by (repeat' (first | (with_reducible exact Below.refl _ _) | (with_reducible refine Below.trans ?_ (below_drewN _ _ _)) | (with_reducible refine Below.alloc ?_ ?_ _) | (with_reducible refine Below.setCell ?_ ?_ _) | (with_reducible refine Below.drew ?_) | go_size)))⟩
end

end
/- qtree: the reader in memory; over, at, kind, is, fail, form. -/
section
open Go.RowKit

/-- All but block g is kept. -/
structure Ex (g : Nat) (w w' : World) : Prop where
  os : w'.os = w.os
  output : w'.output = w.output
  size : w.heap.size ≤ w'.heap.size
  block : ∀ k, k < w.heap.size → k ≠ g → w'.heap[k]? = w.heap[k]?
section
variable {g : Nat} {a b c w w' : World}
theorem Ex.refl (g : Nat) (w : World) : Ex g w w := ⟨rfl, rfl, Nat.le_refl _, fun _ _ _ => rfl⟩
theorem Ex.trans (h : Ex g a b) (k : Ex g b c) : Ex g a c :=
  ⟨k.os.trans h.os, k.output.trans h.output, Nat.le_trans h.size k.size, fun i hi hg => (k.block i (Nat.lt_of_lt_of_le hi h.size) hg).trans (h.block i hi hg)⟩
theorem Ex.of_bel (g : Nat) (h : Bel w.heap.size w w') : Ex g w w' := ⟨h.os, h.output, h.size, fun k hk _ => h.block k hk⟩
theorem Ex.alloc (h : Ex g a w) (o : Obj) : Ex g a (w.alloc o) := h.trans (.of_bel g bel_lit)
theorem Ex.drewN (h : Ex g a w) (n : Nat) : Ex g a (w.drewN n) := ⟨h.os, h.output, h.size, h.block⟩
theorem Ex.set_ (h : Ex g a w) {p : Addr} (hp : p.block = g ∨ a.heap.size ≤ p.block) (u : Value) : Ex g a (w.setCell p u) :=
  ⟨h.os, h.output, by have := h.size; simpa using this, fun k hk hg => (Below.heap_setCell w p u k (by rcases hp with hp | hp <;> omega)).trans (h.block k hk hg)⟩
theorem Ex.bel (h : Ex g w w') (hg : g ≤ w.heap.size) : Bel g w w' := ⟨h.os, h.output, h.size, fun k hk => h.block k (by omega) (by omega)⟩
theorem Blk.ex {t : TypeId} {cs : Array Value} {k : Nat} (h : Blk w k t cs) (hx : Ex g w w') (hk : k ≠ g) : Blk w' k t cs := (hx.block k h.lt hk).trans h
end
section
variable {g : Nat} {E : Int} {w w' : World} {t : PSt} {d : Nat}
end
end
/- qtree: the reader: next, take, must, open, close, number. -/
section
open Go.RowKit

theorem nextS_ov {E : Int} {t : PSt} (h : ovS t = true) : nextS E t = formS E t ∧ hdT t = tok0 := by
  unfold ovS at h
  by_cases hf : t.fe = 0
  · have : t.toks = [] := by
      rw [hf] at h
      cases ht : t.toks with
      | nil => rfl
      | cons x r => rw [ht] at h; simp at h
    unfold nextS hdT
    rw [if_pos hf, if_pos hf, this]
    exact ⟨rfl, rfl⟩
  · exact ⟨by rw [nextS_bad hf, formS_bad hf], hdT_bad hf⟩
theorem ov_no {t : PSt} (h : ovS t = false) : ∃ x r, t = ⟨x :: r, 0, t.fa⟩ := by
  obtain ⟨toks, fe, fa⟩ := t
  unfold ovS at h
  simp only [Bool.or_eq_false_iff, bne_eq_false_iff_eq] at h
  obtain ⟨rfl, ht⟩ := h
  cases toks with
  | nil => simp at ht
  | cons x r => exact ⟨x, r, rfl⟩
end
/- Blocks of N cells: opened, and stored into (printed by gen_cells.py). -/
section
open Go.RowKit

theorem Kp.set_ {K K' : Nat → Prop} {a w : World} (h : Kp K K' a w) {p : Addr} (hp : ∀ b, K b → b < a.heap.size → b ≠ p.block) (u : Value) : Kp K K' a (w.setCell p u) :=
  ⟨by have := h.size; simpa using this, fun b hb hl => ⟨(h.block b hb hl).1, (Below.heap_setCell w p u b (hp b hb hl)).trans (h.block b hb hl).2⟩⟩
theorem Kp.alloc {K K' : Nat → Prop} {a w : World} (h : Kp K K' a w) (o : Obj) : Kp K K' a (w.alloc o) :=
  ⟨by have := h.size; simp; omega, fun b hb hl => ⟨(h.block b hb hl).1, (Below.heap_alloc w o b (Nat.lt_of_lt_of_le hl h.size)).trans (h.block b hb hl).2⟩⟩
theorem Kp.ex {K K' : Nat → Prop} {g : Nat} {a w w' : World} (h : Kp K K' a w) (hx : Ex g w w') (hg : ∀ b, K b → b < a.heap.size → b ≠ g) : Kp K K' a w' :=
  ⟨Nat.le_trans h.size hx.size, fun b hb hl => ⟨(h.block b hb hl).1, (hx.block b (Nat.lt_of_lt_of_le hl h.size) (hg b hb hl)).trans (h.block b hb hl).2⟩⟩
theorem Kp.id_ {K K' : Nat → Prop} {w : World} (h : ∀ b, K b → b < w.heap.size → K' b) : Kp K K' w w := ⟨Nat.le_refl _, fun b hb hl => ⟨h b hb hl, rfl⟩⟩
theorem Blk.c2 {w : World} {k : Nat} {t : TypeId} {u0 u1 : Value} (h : Blk w k t #[u0, u1]) : k < w.heap.size ∧ (w.cell? ⟨k, 0, none⟩ = some u0 ∧ w.cell? ⟨k, 1, none⟩ = some u1) ∧ (w.frozen? ⟨k, 0, none⟩ = false ∧ w.frozen? ⟨k, 1, none⟩ = false) :=
  ⟨h.lt, ⟨h.cell 0, h.cell 1⟩, ⟨h.frozen 0, h.frozen 1⟩⟩
theorem Blk.put2 {w : World} {k : Nat} {t : TypeId} {v0 v1 u0 u1 : Value} (h : Blk w k t #[v0, v1]) : Blk ((w.setCell ⟨k, 0, none⟩ u0).setCell ⟨k, 1, none⟩ u1) k t #[u0, u1] := ((h.set_ 0 u0).set_ 1 u1)
theorem Blk.c5 {w : World} {k : Nat} {t : TypeId} {u0 u1 u2 u3 u4 : Value} (h : Blk w k t #[u0, u1, u2, u3, u4]) : k < w.heap.size ∧ (w.cell? ⟨k, 0, none⟩ = some u0 ∧ w.cell? ⟨k, 1, none⟩ = some u1 ∧ w.cell? ⟨k, 2, none⟩ = some u2 ∧ w.cell? ⟨k, 3, none⟩ = some u3 ∧ w.cell? ⟨k, 4, none⟩ = some u4) ∧ (w.frozen? ⟨k, 0, none⟩ = false ∧ w.frozen? ⟨k, 1, none⟩ = false ∧ w.frozen? ⟨k, 2, none⟩ = false ∧ w.frozen? ⟨k, 3, none⟩ = false ∧ w.frozen? ⟨k, 4, none⟩ = false) :=
  ⟨h.lt, ⟨h.cell 0, h.cell 1, h.cell 2, h.cell 3, h.cell 4⟩, ⟨h.frozen 0, h.frozen 1, h.frozen 2, h.frozen 3, h.frozen 4⟩⟩
theorem Blk.c6 {w : World} {k : Nat} {t : TypeId} {u0 u1 u2 u3 u4 u5 : Value} (h : Blk w k t #[u0, u1, u2, u3, u4, u5]) : k < w.heap.size ∧ (w.cell? ⟨k, 0, none⟩ = some u0 ∧ w.cell? ⟨k, 1, none⟩ = some u1 ∧ w.cell? ⟨k, 2, none⟩ = some u2 ∧ w.cell? ⟨k, 3, none⟩ = some u3 ∧ w.cell? ⟨k, 4, none⟩ = some u4 ∧ w.cell? ⟨k, 5, none⟩ = some u5) ∧ (w.frozen? ⟨k, 0, none⟩ = false ∧ w.frozen? ⟨k, 1, none⟩ = false ∧ w.frozen? ⟨k, 2, none⟩ = false ∧ w.frozen? ⟨k, 3, none⟩ = false ∧ w.frozen? ⟨k, 4, none⟩ = false ∧ w.frozen? ⟨k, 5, none⟩ = false) :=
  ⟨h.lt, ⟨h.cell 0, h.cell 1, h.cell 2, h.cell 3, h.cell 4, h.cell 5⟩, ⟨h.frozen 0, h.frozen 1, h.frozen 2, h.frozen 3, h.frozen 4, h.frozen 5⟩⟩
theorem Ex.far6 {g : Nat} {a w : World} {k : Nat} {u0 u1 u2 u3 u4 u5 : Value} (h : Ex g a w) (hk : a.heap.size ≤ k) : Ex g a ((((((w.setCell ⟨k, 0, none⟩ u0).setCell ⟨k, 1, none⟩ u1).setCell ⟨k, 2, none⟩ u2).setCell ⟨k, 3, none⟩ u3).setCell ⟨k, 4, none⟩ u4).setCell ⟨k, 5, none⟩ u5) := ((((((h.set_ (.inr hk) u0).set_ (.inr hk) u1).set_ (.inr hk) u2).set_ (.inr hk) u3).set_ (.inr hk) u4).set_ (.inr hk) u5)
theorem Kp.far6 {K K' : Nat → Prop} {a w : World} {k : Nat} {u0 u1 u2 u3 u4 u5 : Value} (h : Kp K K' a w) (hk : ∀ b, K b → b < a.heap.size → b ≠ k) : Kp K K' a ((((((w.setCell ⟨k, 0, none⟩ u0).setCell ⟨k, 1, none⟩ u1).setCell ⟨k, 2, none⟩ u2).setCell ⟨k, 3, none⟩ u3).setCell ⟨k, 4, none⟩ u4).setCell ⟨k, 5, none⟩ u5) := ((((((h.set_ hk u0).set_ hk u1).set_ hk u2).set_ hk u3).set_ hk u4).set_ hk u5)
theorem Blk.far6 {w : World} {k l : Nat} {t : TypeId} {cs : Array Value} {u0 u1 u2 u3 u4 u5 : Value} (h : Blk w l t cs) (hk : l ≠ k) : Blk ((((((w.setCell ⟨k, 0, none⟩ u0).setCell ⟨k, 1, none⟩ u1).setCell ⟨k, 2, none⟩ u2).setCell ⟨k, 3, none⟩ u3).setCell ⟨k, 4, none⟩ u4).setCell ⟨k, 5, none⟩ u5) l t cs := ((((((h.far hk u0).far hk u1).far hk u2).far hk u3).far hk u4).far hk u5)
theorem Blk.c9 {w : World} {k : Nat} {t : TypeId} {u0 u1 u2 u3 u4 u5 u6 u7 u8 : Value} (h : Blk w k t #[u0, u1, u2, u3, u4, u5, u6, u7, u8]) : k < w.heap.size ∧ (w.cell? ⟨k, 0, none⟩ = some u0 ∧ w.cell? ⟨k, 1, none⟩ = some u1 ∧ w.cell? ⟨k, 2, none⟩ = some u2 ∧ w.cell? ⟨k, 3, none⟩ = some u3 ∧ w.cell? ⟨k, 4, none⟩ = some u4 ∧ w.cell? ⟨k, 5, none⟩ = some u5 ∧ w.cell? ⟨k, 6, none⟩ = some u6 ∧ w.cell? ⟨k, 7, none⟩ = some u7 ∧ w.cell? ⟨k, 8, none⟩ = some u8) ∧ (w.frozen? ⟨k, 0, none⟩ = false ∧ w.frozen? ⟨k, 1, none⟩ = false ∧ w.frozen? ⟨k, 2, none⟩ = false ∧ w.frozen? ⟨k, 3, none⟩ = false ∧ w.frozen? ⟨k, 4, none⟩ = false ∧ w.frozen? ⟨k, 5, none⟩ = false ∧ w.frozen? ⟨k, 6, none⟩ = false ∧ w.frozen? ⟨k, 7, none⟩ = false ∧ w.frozen? ⟨k, 8, none⟩ = false) :=
  ⟨h.lt, ⟨h.cell 0, h.cell 1, h.cell 2, h.cell 3, h.cell 4, h.cell 5, h.cell 6, h.cell 7, h.cell 8⟩, ⟨h.frozen 0, h.frozen 1, h.frozen 2, h.frozen 3, h.frozen 4, h.frozen 5, h.frozen 6, h.frozen 7, h.frozen 8⟩⟩
end

end Go.Proofs.YtpcbcodmocmilaaDoor
