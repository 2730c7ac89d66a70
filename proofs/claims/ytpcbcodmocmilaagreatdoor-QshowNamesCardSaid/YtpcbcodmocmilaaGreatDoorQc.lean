/- qtree: the reader in memory; over, at, kind, is, fail, form. -/
import Derived.Test.YtpcbcodmocmilaaGreatDoorQb
import Derived.Test.YtpcbcodmocmilaaGreatDoorG06
namespace Go.Proofs.YtpcbcodmocmilaaGreatDoor
open Go.RowKit

/-- All but block g is kept. -/
structure Ex (g : Nat) (w w' : World) : Prop where
  os : w'.os = w.os
  output : w'.output = w.output
  size : w.heap.size ≤ w'.heap.size
  block : ∀ k, k < w.heap.size → k ≠ g → w'.heap[k]? = w.heap[k]?
section
variable {g : Nat} {a b c w w' : World}
theorem Ex.refl (g : Nat) (w : World) : Ex g w w := ⟨rfl, rfl, Nat.le_refl _, fun _ _ _ => rfl⟩
theorem Ex.trans (h : Ex g a b) (k : Ex g b c) : Ex g a c :=
  ⟨k.os.trans h.os, k.output.trans h.output, Nat.le_trans h.size k.size, fun i hi hg => (k.block i (Nat.lt_of_lt_of_le hi h.size) hg).trans (h.block i hi hg)⟩
theorem Ex.of_bel (g : Nat) (h : Bel w.heap.size w w') : Ex g w w' := ⟨h.os, h.output, h.size, fun k hk _ => h.block k hk⟩
theorem Ex.alloc (h : Ex g a w) (o : Obj) : Ex g a (w.alloc o) := h.trans (.of_bel g bel_lit)
theorem Ex.drewN (h : Ex g a w) (n : Nat) : Ex g a (w.drewN n) := ⟨h.os, h.output, h.size, h.block⟩
theorem Ex.set_ (h : Ex g a w) {p : Addr} (hp : p.block = g ∨ a.heap.size ≤ p.block) (u : Value) : Ex g a (w.setCell p u) :=
  ⟨h.os, h.output, by have := h.size; simpa using this, fun k hk hg => (Below.heap_setCell w p u k (by rcases hp with hp | hp <;> omega)).trans (h.block k hk hg)⟩
theorem Ex.bel (h : Ex g w w') (hg : g ≤ w.heap.size) : Bel g w w' := ⟨h.os, h.output, h.size, fun k hk => h.block k (by omega) (by omega)⟩
theorem Blk.ex {t : TypeId} {cs : Array Value} {k : Nat} (h : Blk w k t cs) (hx : Ex g w w') (hk : k ≠ g) : Blk w' k t cs := (hx.block k h.lt hk).trans h
theorem Ex.kp {K K' : Nat → Prop} (h : Ex g w w') (hK : ∀ b, K b → b < w.heap.size → b ≠ g ∧ K' b) : Kp K K' w w' := ⟨h.size, fun b hb hl => ⟨(hK b hb hl).2, h.block b hl (hK b hb hl).1⟩⟩
end
/-- Tokens below block g. -/
def TkB (g : Nat) (w : World) (A : Option Addr) (toks : List TokD) : Prop :=
  toks = [] ∨ ∃ b off, A = some ⟨b, off, none⟩ ∧ b < g ∧ ∀ (i : Nat) (x : TokD), toks[i]? = some x → w.cell? ⟨b, off + i * 5, none⟩ = some (.int .i64 x.kind) ∧ w.cell? ⟨b, off + i * 5 + 1, none⟩ = some (.string (bs x.s)) ∧ w.cell? ⟨b, off + i * 5 + 2, none⟩ = some (.int .i64 x.n) ∧ w.cell? ⟨b, off + i * 5 + 3, none⟩ = some (.int .i64 (x.at_ : Nat)) ∧ w.cell? ⟨b, off + i * 5 + 4, none⟩ = some (.bool x.gap)
theorem TkB.keep {g : Nat} {w w' : World} {A : Option Addr} {toks : List TokD} (h : TkB g w A toks) (hb : ∀ k, k < g → w'.heap[k]? = w.heap[k]?) : TkB g w' A toks := by
  refine h.imp id ?_
  rintro ⟨b, off, e, hlt, hc⟩
  refine ⟨b, off, e, hlt, fun i x hx => ?_⟩
  obtain ⟨h0, h1, h2, h3, h4⟩ := hc i x hx
  have k : ∀ o, w'.cell? ⟨b, o, none⟩ = w.cell? ⟨b, o, none⟩ := fun o => World.cell?_of_block (hb b hlt)
  exact ⟨(k _).trans h0, (k _).trans h1, (k _).trans h2, (k _).trans h3, (k _).trans h4⟩
theorem TkB.tail {g : Nat} {w : World} {b off : Nat} {x : TokD} {r : List TokD} (h : TkB g w (some ⟨b, off, none⟩) (x :: r)) : TkB g w (some ⟨b, off + 5, none⟩) r := by
  obtain ⟨b', off', e, hlt, hc⟩ := h.resolve_left (by simp)
  cases e
  refine .inr ⟨b, off + 5, rfl, hlt, fun i y hy => ?_⟩
  have := hc (i + 1) y (by simpa using hy)
  rw [show off + (i + 1) * 5 = off + 5 + i * 5 by omega] at this
  exact this
/-- The reader lies in block g. -/
def RdS (g : Nat) (E : Int) (w : World) (t : PSt) (d : Nat) : Prop :=
  ∃ A c, Blk w g 75 #[.slice A t.toks.length c, .int .i64 E, .int .i64 t.fe, .int .i64 t.fa, .int .i64 (d : Nat)] ∧ t.toks.length ≤ c ∧ (c ≤ 9223372036854775807 ∧ t.toks.length ≤ 1000000) ∧ d ≤ 100 ∧ TkB g w A t.toks
section
variable {g : Nat} {E : Int} {w w' : World} {t : PSt} {d : Nat}
theorem RdS.lt (h : RdS g E w t d) : g < w.heap.size := by obtain ⟨A, c, h, _⟩ := h; exact h.lt
theorem RdS.bel (h : RdS g E w t d) (hb : Bel w.heap.size w w') : RdS g E w' t d := by
  have hl := h.lt
  obtain ⟨A, c, h1, h2, h3, h4, h5⟩ := h
  exact ⟨A, c, h1.bel hb hl, h2, h3, h4, h5.keep fun k hk => hb.block k (by omega)⟩
theorem RdS.drewN (h : RdS g E w t d) (n : Nat) : RdS g E (w.drewN n) t d := h.bel ((Bel.refl _ _).drewN n)
theorem RdS.alloc (h : RdS g E w t d) (o : Obj) : RdS g E (w.alloc o) t d := h.bel bel_lit
/-- A store beyond block g. -/
theorem RdS.far (h : RdS g E w t d) {p : Addr} (hp : g < p.block) (u : Value) : RdS g E (w.setCell p u) t d := by
  obtain ⟨A, c, h1, h2, h3, h4, h5⟩ := h
  exact ⟨A, c, h1.far (by omega) u, h2, h3, h4, h5.keep fun k hk => Below.heap_setCell w p u k (by omega)⟩
theorem RdS.deep (h : RdS g E w t d) {v : Int} {d' : Nat} (hv : v = (d' : Nat)) (hd : d' ≤ 100) : RdS g E (w.setCell ⟨g, 4, none⟩ (.int .i64 v)) t d' := by
  obtain ⟨A, c, h1, h2, h3, h4, h5⟩ := h
  refine ⟨A, c, ?_, h2, h3, hd, h5.keep fun k hk => Below.heap_setCell w ⟨g, 4, none⟩ _ k (by show k ≠ g; omega)⟩
  have := h1.set_ 4 (.int .i64 v)
  rw [hv] at this ⊢
  exact this
theorem RdS.failed (h : RdS g E w t d) (e a : Int) (h0 : t.fe = 0) : RdS g E ((w.setCell ⟨g, 2, none⟩ (.int .i64 e)).setCell ⟨g, 3, none⟩ (.int .i64 a)) (failS a e t) d := by
  obtain ⟨A, c, h1, h2, h3, h4, h5⟩ := h
  have hk : ∀ k, k < g → ((w.setCell ⟨g, 2, none⟩ (.int .i64 e)).setCell ⟨g, 3, none⟩ (.int .i64 a)).heap[k]? = w.heap[k]? := fun k hk =>
    (Below.heap_setCell _ ⟨g, 3, none⟩ _ k (by show k ≠ g; omega)).trans (Below.heap_setCell w ⟨g, 2, none⟩ _ k (by show k ≠ g; omega))
  unfold failS
  rw [if_pos h0]
  exact ⟨A, c, (h1.set_ 2 (.int .i64 e)).set_ 3 (.int .i64 a), h2, h3, h4, h5.keep hk⟩
end
theorem Ex.self1 {g : Nat} {a w : World} (h : Ex g a w) (i : Nat) (u : Value) : Ex g a (w.setCell ⟨g, i, none⟩ u) := h.set_ (.inl rfl) u
/-- What the walk needs of the reader. -/
theorem RdS.cells {g : Nat} {E : Int} {w : World} {t : PSt} {d : Nat} (h : RdS g E w t d) : ∃ A c n, n = t.toks.length ∧ n ≤ c ∧ c ≤ 9223372036854775807 ∧ d ≤ 100 ∧ g < w.heap.size ∧
    (w.cell? ⟨g, 0, none⟩ = some (.slice A n c) ∧ w.cell? ⟨g, 1, none⟩ = some (.int .i64 E) ∧ w.cell? ⟨g, 2, none⟩ = some (.int .i64 t.fe) ∧ w.cell? ⟨g, 3, none⟩ = some (.int .i64 t.fa) ∧ w.cell? ⟨g, 4, none⟩ = some (.int .i64 (d : Nat))) ∧
    (w.frozen? ⟨g, 0, none⟩ = false ∧ w.frozen? ⟨g, 2, none⟩ = false ∧ w.frozen? ⟨g, 3, none⟩ = false ∧ w.frozen? ⟨g, 4, none⟩ = false) ∧ TkB g w A t.toks := by
  obtain ⟨A, c, h1, h2, h3, h4, h5⟩ := h
  exact ⟨A, c, _, rfl, h2, h3.1, h4, h1.lt, ⟨h1.cell 0, h1.cell 1, h1.cell 2, h1.cell 3, h1.cell 4⟩, ⟨h1.frozen 0, h1.frozen 2, h1.frozen 3, h1.frozen 4⟩, h5⟩
theorem TkB.head {g : Nat} {w : World} {A : Option Addr} {x : TokD} {r : List TokD} (h : TkB g w A (x :: r)) : ∃ b off, A = some ⟨b, off, none⟩ ∧ b < g ∧ w.cell? ⟨b, off, none⟩ = some (.int .i64 x.kind) ∧ w.cell? ⟨b, off + 1, none⟩ = some (.string (bs x.s)) ∧ w.cell? ⟨b, off + 2, none⟩ = some (.int .i64 x.n) ∧ w.cell? ⟨b, off + 3, none⟩ = some (.int .i64 (x.at_ : Nat)) ∧ w.cell? ⟨b, off + 4, none⟩ = some (.bool x.gap) := by
  obtain ⟨b, off, e, hlt, hc⟩ := h.resolve_left (by simp)
  have := hc 0 x rfl
  simp only [Nat.zero_mul, Nat.add_zero] at this
  exact ⟨b, off, e, hlt, this⟩
theorem eq_bs (s : ByteArray) (l : List UInt8) : ((bs l).toList == s.toList) = (l == s.data.toList) := by
  cases h : (l == s.data.toList) with
  | true => exact str_t (bs_of (beq_iff_eq.1 h).symm).symm
  | false => exact str_f (fun e => by rw [beq_eq_false_iff_ne] at h; apply h; rw [← e, bs_list])

set_option maxRecDepth 100000 in
set_option maxHeartbeats 1000000 in
theorem over_any (g : Nat) (E : Int) (t : PSt) (d : Nat) (w : World) (h : RdS g E w t d) :
    Calls Tryz.prog 33 #[.pointer (some ⟨g, 0, none⟩)] w fun e w' => e = .returned (.bool (ovS t)) ∧ w = w' := by
  obtain ⟨A, c, n, hn, hnc, hc, hd, hg, ⟨c0, c1, c2, c3, c4⟩, _, _⟩ := h.cells
  obtain ⟨toks, fe, fa⟩ := t
  simp only at hn c2
  by_cases hf : fe = 0
  · have HE := Lib.hid (show ovS ⟨toks, fe, fa⟩ = (n == 0) by unfold ovS; simp only; rw [hf, hn]; cases toks <;> rfl)
    have hf' : (fe != 0) = false := by rw [hf]; rfl
    have HN := Lib.hid hn
    clear hn hf
    go_enter Tryz.func33, Tryz.ntmps33
    go_wp2
    go_ret
    exact ⟨ret_bool (by rw [HE.out, Bool.eq_iff_iff]; simp; try omega), rfl⟩
  · have HE := Lib.hid (show ovS ⟨toks, fe, fa⟩ = true by unfold ovS; simp only; rw [bne_iff_ne.2 hf]; rfl)
    have hf' : (fe != 0) = true := bne_iff_ne.2 hf
    clear hn hf
    go_enter Tryz.func33, Tryz.ntmps33
    go_wp2
    go_ret
    exact ⟨ret_bool (by rw [HE.out]), rfl⟩
theorem over_at (b : Bool) {g : Nat} {E : Int} {t : PSt} {d : Nat} (w : World) (h : RdS g E w t d) (hb : Hid (ovS t = b)) :
    Calls Tryz.prog 33 #[.pointer (some ⟨g, 0, none⟩)] w fun e w' => e = .returned (.bool b) ∧ w = w' := by
  rw [← hb.out]; exact over_any g E t d w h

set_option maxRecDepth 100000 in
set_option maxHeartbeats 1000000 in
theorem at_any (g : Nat) (E : Int) (t : PSt) (d : Nat) (w : World) (h : RdS g E w t d) :
    Calls Tryz.prog 53 #[.pointer (some ⟨g, 0, none⟩)] w fun e w' => e = .returned (.int .i64 (atS E t)) ∧ w = w' := by
  obtain ⟨A, c, n, hn, hnc, hc, hd, hg, ⟨c0, c1, c2, c3, c4⟩, _, hT⟩ := h.cells
  obtain ⟨toks, fe, fa⟩ := t
  simp only at hn c2 hT
  cases toks with
  | nil =>
    have HE := Lib.hid (show atS E ⟨[], fe, fa⟩ = E from rfl)
    obtain rfl : n = 0 := hn
    clear hT
    go_enter Tryz.func53, Tryz.ntmps53
    go_wp2
    go_ret
    exact ⟨ret_int (by rw [HE.out]), rfl⟩
  | cons x r =>
    have HE := Lib.hid (show atS E ⟨x :: r, fe, fa⟩ = (x.at_ : Nat) from rfl)
    obtain ⟨b, off, rfl, hb, d0, d1, d2, d3, d4⟩ := hT.head
    have hn0 : 0 < n := by rw [hn]; simp
    have hn1 : ((n : Int) == 0) = false := by rw [beq_eq_false_iff_ne]; omega
    clear hn hT
    go_enter Tryz.func53, Tryz.ntmps53
    go_wp2
    go_ret
    exact ⟨ret_int (by rw [HE.out]), rfl⟩

set_option maxRecDepth 100000 in
set_option maxHeartbeats 1000000 in
theorem kind_any (g : Nat) (E : Int) (t : PSt) (d : Nat) (w : World) (h : RdS g E w t d) :
    Calls Tryz.prog 51 #[.pointer (some ⟨g, 0, none⟩)] w fun e w' => e = .returned (.int .i64 (kindS t)) ∧ w = w' := by
  obtain ⟨A, c, n, hn, hnc, hc, hd, hg, ⟨c0, c1, c2, c3, c4⟩, _, hT⟩ := h.cells
  have hov := fun b (hb : ovS t = b) => over_at b w h (Lib.hid hb)
  cases hb : ovS t with
  | true =>
    have HO := Lib.hid (hov true hb)
    have HE := Lib.hid (show kindS t = 0 by
      unfold kindS hdT
      unfold ovS at hb
      split
      · rename_i h0
        rw [h0] at hb
        cases ht : t.toks with
        | nil => rfl
        | cons x r => rw [ht] at hb; simp at hb
      · rfl)
    clear hb hov hn hT
    go_enter Tryz.func51, Tryz.ntmps51
    go_wp2_with (go_at_call 33; refine HO.out.mono ?_; rintro e w' ⟨rfl, rfl⟩)
    go_ret
    exact ⟨ret_int (by rw [HE.out]), rfl⟩
  | false =>
    have HO := Lib.hid (hov false hb)
    obtain ⟨toks, fe, fa⟩ := t
    unfold ovS at hb
    simp only [Bool.or_eq_false_iff, bne_eq_false_iff_eq] at hb
    obtain ⟨hf, ht⟩ := hb
    simp only at hn hT c2
    cases toks with
    | nil => simp at ht
    | cons x r =>
      have HE := Lib.hid (show kindS ⟨x :: r, fe, fa⟩ = x.kind by unfold kindS hdT; simp only; rw [if_pos hf])
      obtain ⟨b, off, rfl, hb, d0, d1, d2, d3, d4⟩ := hT.head
      have hn0 : 0 < n := by rw [hn]; simp
      clear hn hT hov hf ht
      go_enter Tryz.func51, Tryz.ntmps51
      go_wp2_with (go_at_call 33; refine HO.out.mono ?_; rintro e w' ⟨rfl, rfl⟩)
      go_ret
      exact ⟨ret_int (by rw [HE.out]), rfl⟩
theorem kind_at (k : Int) {g : Nat} {E : Int} {t : PSt} {d : Nat} (w : World) (h : RdS g E w t d) (hb : Hid (kindS t = k)) :
    Calls Tryz.prog 51 #[.pointer (some ⟨g, 0, none⟩)] w fun e w' => e = .returned (.int .i64 k) ∧ w = w' := by
  rw [← hb.out]; exact kind_any g E t d w h

set_option maxRecDepth 100000 in
set_option maxHeartbeats 1000000 in
theorem is_any (g : Nat) (E : Int) (t : PSt) (d : Nat) (s : ByteArray) (w : World) (h : RdS g E w t d) :
    Calls Tryz.prog 30 #[.pointer (some ⟨g, 0, none⟩), .string s] w fun e w' => e = .returned (.bool (isS s.data.toList t)) ∧ w = w' := by
  obtain ⟨A, c, n, hn, hnc, hc, hd, hg, ⟨c0, c1, c2, c3, c4⟩, _, hT⟩ := h.cells
  obtain ⟨k, hk⟩ : ∃ k, kindS t = k := ⟨_, rfl⟩
  have HK := Lib.hid (kind_at k w h (Lib.hid hk))
  by_cases h1 : k = 1
  · have hk1 : (k == 1) = true := by rw [h1]; rfl
    obtain ⟨toks, fe, fa⟩ := t
    simp only at hn hT c2
    have hf : fe = 0 := Classical.byContradiction fun hf => by
      unfold kindS at hk; rw [hdT_bad hf] at hk; simp [tok0] at hk; omega
    cases toks with
    | nil => unfold kindS hdT at hk; rw [if_pos hf] at hk; simp [tok0] at hk; omega
    | cons x r =>
      have hh : hdT ⟨x :: r, fe, fa⟩ = x := by unfold hdT; simp only; rw [if_pos hf]
      have HE := Lib.hid (show isS s.data.toList ⟨x :: r, fe, fa⟩ = ((bs x.s).toList == s.toList) by
        unfold isS
        rw [hk, hh, eq_bs]
        simp [h1])
      obtain ⟨b, off, rfl, hb, d0, d1, d2, d3, d4⟩ := hT.head
      have hn0 : 0 < n := by rw [hn]; simp
      clear hn hT hf hk h1 hh
      go_enter Tryz.func30, Tryz.ntmps30
      go_wp2_with (go_at_call 51; refine HK.out.mono ?_; rintro e w' ⟨rfl, rfl⟩)
      go_ret
      exact ⟨ret_bool (by rw [HE.out]), rfl⟩
  · have hk1 : (k == 1) = false := by rw [beq_eq_false_iff_ne]; exact h1
    have HE := Lib.hid (show isS s.data.toList t = false by unfold isS; rw [hk]; simp [h1])
    clear hn hT hk h1
    go_enter Tryz.func30, Tryz.ntmps30
    go_wp2_with (go_at_call 51; refine HK.out.mono ?_; rintro e w' ⟨rfl, rfl⟩)
    go_ret
    exact ⟨ret_bool (by rw [HE.out]), rfl⟩
theorem is_at (s : ByteArray) (b : Bool) {g : Nat} {E : Int} {t : PSt} {d : Nat} (w : World) (h : RdS g E w t d) (hb : Hid (isS s.data.toList t = b)) :
    Calls Tryz.prog 30 #[.pointer (some ⟨g, 0, none⟩), .string s] w fun e w' => e = .returned (.bool b) ∧ w = w' := by
  rw [← hb.out]; exact is_any g E t d s w h

set_option maxRecDepth 100000 in
set_option maxHeartbeats 1000000 in
theorem fail_any (g : Nat) (E : Int) (t : PSt) (d : Nat) (a e : Int) (w : World) (h : RdS g E w t d) :
    Calls Tryz.prog 52 #[.pointer (some ⟨g, 0, none⟩), .int .i64 a, .int .i64 e] w fun e' w' => e' = .returned (.tuple #[]) ∧ RdS g E w' (failS a e t) d ∧ Ex g w w' := by
  obtain ⟨A, c, n, hn, hnc, hc, hd, hg, ⟨c0, c1, c2, c3, c4⟩, ⟨f0, f2, f3, f4⟩, hT⟩ := h.cells
  obtain ⟨fe, hfe⟩ : ∃ fe, t.fe = fe := ⟨_, rfl⟩
  rw [hfe] at c2
  by_cases hf : fe = 0
  · have hf' : (fe == 0) = true := by rw [hf]; rfl
    have HR := Lib.hid (h.failed e a (hfe.trans hf))
    clear hn hT hf hfe
    go_enter Tryz.func52, Tryz.ntmps52
    go_wp2
    go_end0
    exact ⟨rfl, HR.out, ((Ex.refl g w).self1 2 _).self1 3 _⟩
  · have hf' : (fe == 0) = false := by rw [beq_eq_false_iff_ne]; exact hf
    have HR := Lib.hid (show RdS g E w (failS a e t) d by rw [failS_bad (by rw [hfe]; exact hf)]; exact h)
    clear hn hT hf hfe
    go_enter Tryz.func52, Tryz.ntmps52
    go_wp2
    go_end0
    exact ⟨rfl, HR.out, Ex.refl g w⟩

set_option maxRecDepth 100000 in
set_option maxHeartbeats 1000000 in
theorem form_any (g : Nat) (E : Int) (t : PSt) (d : Nat) (w : World) (h : RdS g E w t d) :
    Calls Tryz.prog 31 #[.pointer (some ⟨g, 0, none⟩)] w fun e w' => e = .returned (.tuple #[]) ∧ RdS g E w' (formS E t) d ∧ Ex g w w' := by
  have HA := Lib.hid (at_any g E t d w h)
  have HF := Lib.hid (fail_any g E t d (atS E t) 3 w h)
  obtain ⟨a, ha⟩ : ∃ a, atS E t = a := ⟨_, rfl⟩
  unfold formS
  rw [ha] at HA HF ⊢
  clear ha h
  go_enter Tryz.func31, Tryz.ntmps31
  go_wp2_with (first | (go_at_call 53; refine HA.out.mono ?_; rintro e w' ⟨rfl, rfl⟩) | (go_at_call 52; refine HF.out.mono ?_; rintro e w' ⟨rfl, hr, hx⟩))
  go_end0
  exact ⟨rfl, hr, hx⟩

end Go.Proofs.YtpcbcodmocmilaaGreatDoor
