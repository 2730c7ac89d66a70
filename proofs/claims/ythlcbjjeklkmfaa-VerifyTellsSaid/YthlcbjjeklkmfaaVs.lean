/- The code's four slices, opened from the argument. -/
import Derived.Test.YthlcbjjeklkmfaaVr
import Derived.Test.YthlcbjjeklkmfaaRowA
import Derived.Deep.Slices
import Derived.Deep.Fields
import Derived.ChangeSame
import Derived.Lib.SmallJoins
import Derived.Lib.LaidU8
import Derived.WideKeyArgs
namespace Go.Proofs.Ythlcbjjeklkmfaa
open Go.RowKit Go.WideShapes Go.ChangeShapes Go.Deep

theorem Bel.same {W W' : World} (h : Bel W.heap.size W W') {p : MemPlace} (hp : p.block < W.heap.size) : W.sameAt W' p := by
  cases p with
  | cell b o => exact World.cell?_of_block (w := W) (h.block b hp)
  | map b => exact h.block b hp
/-- What an argument reads as is kept. -/
theorem Bel.trod {H : Type} {enc : TypeId × Value → H} {P : Program} {t : TypeId} (hl : laidOutB P = true) (hr : P.readableRec t = true) (hrow : t < P.types.size) {W W' : World} {v : Value} {d : DataW H} {ps : List MemPlace}
    (h : DataW.Trod enc P W 0 (fun _ => true) true t v d ps) (hb : Bel W.heap.size W W') (hlt : ∀ x ∈ ps, x.block < W.heap.size) (sp : Nat → Bool) (hs : ∀ x ∈ ps, sp x.block = true) :
    DataW.Trod enc P W' 0 sp true t v d ps :=
  WideElems.Trod_stays hl hr hrow h (fun x hx => hb.same (hlt x hx)) hs
/-- A list out of its elements. -/
theorem list_of {α : Type} (Q : Nat → α → Prop) : ∀ n : Nat, (∀ i, i < n → ∃ x, Q i x) → ∃ l : List α, l.length = n ∧ ∀ i x, l[i]? = some x → Q i x
  | 0, _ => ⟨[], rfl, fun i x h => by simp at h⟩
  | n + 1, h => by
    obtain ⟨l, hl, hq⟩ := list_of Q n fun i hi => h i (by omega)
    obtain ⟨x, hx⟩ := h n (by omega)
    refine ⟨l ++ [x], by simp [hl], fun i y hy => ?_⟩
    by_cases hi : i < l.length
    · rw [List.getElem?_append_left hi] at hy; exact hq i y hy
    · rw [List.getElem?_append_right (by omega)] at hy
      have h0 : i - l.length = 0 := by
        rcases Nat.eq_zero_or_pos (i - l.length) with h0 | h0
        · exact h0
        · rw [List.getElem?_eq_none (by simp; omega)] at hy; cases hy
      rw [h0] at hy
      have hy2 : x = y := by simpa using hy
      subst hy2
      rw [show i = n by omega]; exact hx
section
variable {H : Type} {enc : TypeId × Value → H} {W : World} {base : Nat} {spare : Nat → Bool} {held : Bool}
/-- A slice whose elements' cells are known by their kind. -/
theorem slice_of {α : Type} (f : α → List Value) (k : Nat) (hk : ∀ x, (f x).length = k) (hk0 : 0 < k) {t e : TypeId} {fuel : Nat} {v : Value} {y : DataW H × List MemPlace} (ht : Try.prog.underlying t = some (.slice e)) (hC : Try.prog.cellsOf e = k)
    (hel : ∀ (n : Nat) (cs : List Value) (y : DataW H × List MemPlace), DataW.trod enc Try.prog W base spare held n e cs = some y → ∃ x, cs = f x) (h : DataW.trod enc Try.prog W base spare held fuel t [v] = some y) :
    ∃ (A : Option Addr) (l : List α) (c : Nat), v = .slice A l.length c ∧ l.length ≤ c ∧ c ≤ maxLen ∧ (l = [] ∨ ∃ b off, A = some ⟨b, off, none⟩ ∧ b < W.heap.size ∧ ∀ (i : Nat) (x : α), l[i]? = some x → ∀ j u, (f x)[j]? = some u → W.cell? ⟨b, off + i * k + j, none⟩ = some u) := by
  rcases open_slice ht h with ⟨h0, _⟩ | ⟨a, len, cap, m, n, D, Pl, hcs, hb, hl, hm, hmm, hx, hi⟩
  · simp only [List.cons.injEq, and_true] at h0
    exact ⟨none, [], 0, h0, by simp, by unfold maxLen; omega, .inl rfl⟩
  · simp only [List.cons.injEq, and_true] at hcs
    have hlm : len ≤ m := by rw [hmm]; split <;> omega
    obtain ⟨l, hll, hq⟩ := list_of (fun i (x : α) => ∀ j u, (f x)[j]? = some u → W.cell? (a.add (i * k + j)) = some u) len fun i hil => by
      obtain ⟨cs', hc, ht'⟩ := hi i (by omega)
      obtain ⟨x, rfl⟩ := hel n cs' _ ht'
      refine ⟨x, fun j u hu => ?_⟩
      obtain ⟨_, hcl, hat⟩ := World.cells?_some hc
      have hj : j < k := by rw [← hk x]; exact (List.getElem?_eq_some_iff.1 hu).1
      have := hat j (by rw [hC]; exact hj)
      rw [hC, Go.Deep.add_add] at this
      rw [this, hu]
    refine ⟨some a, l, cap, by rw [hcs, hll], by omega, hm, ?_⟩
    rcases Nat.eq_zero_or_pos len with h0 | h0
    · exact .inl (List.eq_nil_of_length_eq_zero (by omega))
    · have hx0 : l[0]? = some (l[0]'(by omega)) := List.getElem?_eq_getElem (by omega)
      have hf0 : (f (l[0]'(by omega)))[0]? = some ((f (l[0]'(by omega)))[0]'(by rw [hk]; omega)) := List.getElem?_eq_getElem (by rw [hk]; omega)
      have hc0 := hq 0 _ hx0 0 _ hf0
      rw [Nat.zero_mul, Nat.add_zero] at hc0
      obtain ⟨b, off, sp⟩ := a
      have hc1 : W.cell? ⟨b, off, sp⟩ = some ((f (l[0]'(by omega)))[0]'(by rw [hk]; omega)) := hc0
      obtain rfl := Go.Proofs.cell_spot hc1
      refine .inr ⟨b, off, rfl, ?_, fun i x hx j u hu => ?_⟩
      · rcases Nat.lt_or_ge b W.heap.size with hlt | hge
        · exact hlt
        · unfold World.cell? at hc1
          rw [Array.getElem?_eq_none hge] at hc1
          cases hc1
      · have := hq i x hx j u hu
        rw [add_lit] at this
        rw [Nat.add_assoc]; exact this
def segC (x : SegD) : List Value := [.bool x.deep, .int .i64 x.fr, .int .i64 x.tt]
def selC (x : SelD) : List Value := [.int .i64 x.kind, .string x.nm, .int .i64 x.a, .int .i64 x.b, .int .i64 x.c, .bool x.ha, .bool x.hb, .int .i64 x.at_]
theorem path_cells {n : Nat} {cs : List Value} {y : DataW H × List MemPlace} (h : DataW.trod enc Try.prog W base spare held n 33 cs = some y) : ∃ x : PathD, cs = pathC x := by
  obtain ⟨xs, m, _, rfl, hl, hlen, hf⟩ := DataW.trod_struct Try.underlying33 h
  rw [show Try.prog.cellsOf 33 = 3 by kernel_rfl] at hl
  match cs, hl with
  | [v0, v1, v2], _ =>
    match xs, hlen with
    | [y0, y1, y2], _ =>
      have h0 : DataW.trod enc Try.prog W base spare held m 4 [v0] = some y0 := by have := hf 0 _ rfl; simpa [show Try.prog.cellsOf 4 = 1 by kernel_rfl] using this
      obtain ⟨z0, e0, _⟩ := DataW.trod_bool Try.underlying4 h0
      simp only [List.cons.injEq, and_true] at e0
      have h1 : DataW.trod enc Try.prog W base spare held m 3 [v1] = some y1 := by have := hf 1 _ rfl; simpa [show Try.prog.cellsOf 3 = 1 by kernel_rfl] using this
      obtain ⟨z1, e1, _, _⟩ := DataW.trod_int Try.underlying3 h1
      simp only [List.cons.injEq, and_true] at e1
      have h2 : DataW.trod enc Try.prog W base spare held m 3 [v2] = some y2 := by have := hf 2 _ rfl; simpa [show Try.prog.cellsOf 3 = 1 by kernel_rfl] using this
      obtain ⟨z2, e2, _, _⟩ := DataW.trod_int Try.underlying3 h2
      simp only [List.cons.injEq, and_true] at e2
      subst e0 e1 e2
      exact ⟨⟨z0, z1, z2⟩, rfl⟩
theorem seg_cells {n : Nat} {cs : List Value} {y : DataW H × List MemPlace} (h : DataW.trod enc Try.prog W base spare held n 42 cs = some y) : ∃ x : SegD, cs = segC x := by
  obtain ⟨xs, m, _, rfl, hl, hlen, hf⟩ := DataW.trod_struct Try.underlying42 h
  rw [show Try.prog.cellsOf 42 = 3 by kernel_rfl] at hl
  match cs, hl with
  | [v0, v1, v2], _ =>
    match xs, hlen with
    | [y0, y1, y2], _ =>
      have h0 : DataW.trod enc Try.prog W base spare held m 4 [v0] = some y0 := by have := hf 0 _ rfl; simpa [show Try.prog.cellsOf 4 = 1 by kernel_rfl] using this
      obtain ⟨z0, e0, _⟩ := DataW.trod_bool Try.underlying4 h0
      simp only [List.cons.injEq, and_true] at e0
      have h1 : DataW.trod enc Try.prog W base spare held m 3 [v1] = some y1 := by have := hf 1 _ rfl; simpa [show Try.prog.cellsOf 3 = 1 by kernel_rfl] using this
      obtain ⟨z1, e1, _, _⟩ := DataW.trod_int Try.underlying3 h1
      simp only [List.cons.injEq, and_true] at e1
      have h2 : DataW.trod enc Try.prog W base spare held m 3 [v2] = some y2 := by have := hf 2 _ rfl; simpa [show Try.prog.cellsOf 3 = 1 by kernel_rfl] using this
      obtain ⟨z2, e2, _, _⟩ := DataW.trod_int Try.underlying3 h2
      simp only [List.cons.injEq, and_true] at e2
      subst e0 e1 e2
      exact ⟨⟨z0, z1, z2⟩, rfl⟩
theorem sel_cells {n : Nat} {cs : List Value} {y : DataW H × List MemPlace} (h : DataW.trod enc Try.prog W base spare held n 36 cs = some y) : ∃ x : SelD, cs = selC x := by
  obtain ⟨xs, m, _, rfl, hl, hlen, hf⟩ := DataW.trod_struct Try.underlying36 h
  rw [show Try.prog.cellsOf 36 = 8 by kernel_rfl] at hl
  match cs, hl with
  | [v0, v1, v2, v3, v4, v5, v6, v7], _ =>
    match xs, hlen with
    | [y0, y1, y2, y3, y4, y5, y6, y7], _ =>
      have h0 : DataW.trod enc Try.prog W base spare held m 3 [v0] = some y0 := by have := hf 0 _ rfl; simpa [show Try.prog.cellsOf 3 = 1 by kernel_rfl] using this
      obtain ⟨z0, e0, _, _⟩ := DataW.trod_int Try.underlying3 h0
      simp only [List.cons.injEq, and_true] at e0
      have h1 : DataW.trod enc Try.prog W base spare held m 9 [v1] = some y1 := by have := hf 1 _ rfl; simpa [show Try.prog.cellsOf 9 = 1 by kernel_rfl] using this
      obtain ⟨z1, e1, _, _⟩ := DataW.trod_string Try.underlying9 h1
      simp only [List.cons.injEq, and_true] at e1
      have h2 : DataW.trod enc Try.prog W base spare held m 2 [v2] = some y2 := by have := hf 2 _ rfl; simpa [show Try.prog.cellsOf 2 = 1 by kernel_rfl] using this
      obtain ⟨z2, e2, _, _⟩ := DataW.trod_int Try.underlying2 h2
      simp only [List.cons.injEq, and_true] at e2
      have h3 : DataW.trod enc Try.prog W base spare held m 2 [v3] = some y3 := by have := hf 3 _ rfl; simpa [show Try.prog.cellsOf 2 = 1 by kernel_rfl] using this
      obtain ⟨z3, e3, _, _⟩ := DataW.trod_int Try.underlying2 h3
      simp only [List.cons.injEq, and_true] at e3
      have h4 : DataW.trod enc Try.prog W base spare held m 2 [v4] = some y4 := by have := hf 4 _ rfl; simpa [show Try.prog.cellsOf 2 = 1 by kernel_rfl] using this
      obtain ⟨z4, e4, _, _⟩ := DataW.trod_int Try.underlying2 h4
      simp only [List.cons.injEq, and_true] at e4
      have h5 : DataW.trod enc Try.prog W base spare held m 4 [v5] = some y5 := by have := hf 5 _ rfl; simpa [show Try.prog.cellsOf 4 = 1 by kernel_rfl] using this
      obtain ⟨z5, e5, _⟩ := DataW.trod_bool Try.underlying4 h5
      simp only [List.cons.injEq, and_true] at e5
      have h6 : DataW.trod enc Try.prog W base spare held m 4 [v6] = some y6 := by have := hf 6 _ rfl; simpa [show Try.prog.cellsOf 4 = 1 by kernel_rfl] using this
      obtain ⟨z6, e6, _⟩ := DataW.trod_bool Try.underlying4 h6
      simp only [List.cons.injEq, and_true] at e6
      have h7 : DataW.trod enc Try.prog W base spare held m 3 [v7] = some y7 := by have := hf 7 _ rfl; simpa [show Try.prog.cellsOf 3 = 1 by kernel_rfl] using this
      obtain ⟨z7, e7, _, _⟩ := DataW.trod_int Try.underlying3 h7
      simp only [List.cons.injEq, and_true] at e7
      subst e0 e1 e2 e3 e4 e5 e6 e7
      exact ⟨⟨z0, z1, z2, z3, z4, z5, z6, z7⟩, rfl⟩
theorem ins_cells {n : Nat} {cs : List Value} {y : DataW H × List MemPlace} (h : DataW.trod enc Try.prog W base spare held n 31 cs = some y) : ∃ x : InsD, cs = insC x := by
  obtain ⟨xs, m, _, rfl, hl, hlen, hf⟩ := DataW.trod_struct Try.underlying31 h
  rw [show Try.prog.cellsOf 31 = 7 by kernel_rfl] at hl
  match cs, hl with
  | [v0, v1, v2, v3, v4, v5, v6], _ =>
    match xs, hlen with
    | [y0, y1, y2, y3, y4, y5, y6], _ =>
      have h0 : DataW.trod enc Try.prog W base spare held m 3 [v0] = some y0 := by have := hf 0 _ rfl; simpa [show Try.prog.cellsOf 3 = 1 by kernel_rfl] using this
      obtain ⟨z0, e0, _, _⟩ := DataW.trod_int Try.underlying3 h0
      simp only [List.cons.injEq, and_true] at e0
      have h1 : DataW.trod enc Try.prog W base spare held m 3 [v1] = some y1 := by have := hf 1 _ rfl; simpa [show Try.prog.cellsOf 3 = 1 by kernel_rfl] using this
      obtain ⟨z1, e1, _, _⟩ := DataW.trod_int Try.underlying3 h1
      simp only [List.cons.injEq, and_true] at e1
      have h2 : DataW.trod enc Try.prog W base spare held m 3 [v2] = some y2 := by have := hf 2 _ rfl; simpa [show Try.prog.cellsOf 3 = 1 by kernel_rfl] using this
      obtain ⟨z2, e2, _, _⟩ := DataW.trod_int Try.underlying3 h2
      simp only [List.cons.injEq, and_true] at e2
      have h3 : DataW.trod enc Try.prog W base spare held m 3 [v3] = some y3 := by have := hf 3 _ rfl; simpa [show Try.prog.cellsOf 3 = 1 by kernel_rfl] using this
      obtain ⟨z3, e3, _, _⟩ := DataW.trod_int Try.underlying3 h3
      simp only [List.cons.injEq, and_true] at e3
      have h4 : DataW.trod enc Try.prog W base spare held m 2 [v4] = some y4 := by have := hf 4 _ rfl; simpa [show Try.prog.cellsOf 2 = 1 by kernel_rfl] using this
      obtain ⟨z4, e4, _, _⟩ := DataW.trod_int Try.underlying2 h4
      simp only [List.cons.injEq, and_true] at e4
      have h5 : DataW.trod enc Try.prog W base spare held m 9 [v5] = some y5 := by have := hf 5 _ rfl; simpa [show Try.prog.cellsOf 9 = 1 by kernel_rfl] using this
      obtain ⟨z5, e5, _, _⟩ := DataW.trod_string Try.underlying9 h5
      simp only [List.cons.injEq, and_true] at e5
      have h6 : DataW.trod enc Try.prog W base spare held m 3 [v6] = some y6 := by have := hf 6 _ rfl; simpa [show Try.prog.cellsOf 3 = 1 by kernel_rfl] using this
      obtain ⟨z6, e6, _, _⟩ := DataW.trod_int Try.underlying3 h6
      simp only [List.cons.injEq, and_true] at e6
      subst e0 e1 e2 e3 e4 e5 e6
      exact ⟨⟨z0, z1, z2, z3, z4, z5, z6⟩, rfl⟩

theorem open_code {d : DataW H} {p : List MemPlace} {v : Value} {b0 : Nat} (hv : Value.okWide Try.prog W .any b0 27 v) (h : DataW.Trod enc Try.prog W base spare held 27 v d p) :
    ∃ (A1 A2 A3 A4 : Option Addr) (c1 c2 c3 c4 : Nat) (cd : CodeD), v = .agg #[.slice A1 cd.ps.length c1, .slice A2 cd.gs.length c2, .slice A3 cd.ss.length c3, .slice A4 cd.is.length c4] ∧ CM W A1 A2 A3 A4 cd ∧
      (cd.ps.length ≤ maxLen ∧ cd.gs.length ≤ maxLen ∧ cd.ss.length ≤ maxLen ∧ cd.is.length ≤ maxLen) ∧ cd.gs.length ≤ c2 ∧ cd.ss.length ≤ c3 := by
  obtain ⟨b0, b1, b2, b3, y0, y1, y2, y3, m, rfl, rfl, rfl, t0, t1, t2, t3⟩ := Go.Joins.open_agg4 Try.underlying27 (by kernel_rfl) (by kernel_rfl) hv h
  obtain ⟨A1, l1, c1, rfl, hl1, hm1, h1⟩ := slice_of pathC 3 (fun _ => rfl) (by omega) Try.underlying22 (by kernel_rfl) (fun n cs y h => path_cells h) t0
  obtain ⟨A2, l2, c2, rfl, hl2, hm2, h2⟩ := slice_of segC 3 (fun _ => rfl) (by omega) Try.underlying23 (by kernel_rfl) (fun n cs y h => seg_cells h) t1
  obtain ⟨A3, l3, c3, rfl, hl3, hm3, h3⟩ := slice_of selC 8 (fun _ => rfl) (by omega) Try.underlying24 (by kernel_rfl) (fun n cs y h => sel_cells h) t2
  obtain ⟨A4, l4, c4, rfl, hl4, hm4, h4⟩ := slice_of insC 7 (fun _ => rfl) (by omega) Try.underlying25 (by kernel_rfl) (fun n cs y h => ins_cells h) t3
  refine ⟨A1, A2, A3, A4, c1, c2, c3, c4, ⟨l1, l2, l3, l4⟩, rfl, ⟨h1.imp id ?_, h2.imp id ?_, h3.imp id ?_, h4.imp id ?_⟩, ⟨by show l1.length ≤ _; omega, by show l2.length ≤ _; omega, by show l3.length ≤ _; omega, by show l4.length ≤ _; omega⟩, hl2, hl3⟩
  · rintro ⟨b, off, e, hb, hc⟩
    exact ⟨b, off, e, hb, fun i x hx => ⟨hc i x hx 0 _ rfl, hc i x hx 1 _ rfl, hc i x hx 2 _ rfl⟩⟩
  · rintro ⟨b, off, e, hb, hc⟩
    exact ⟨b, off, e, hb, fun i x hx => ⟨hc i x hx 0 _ rfl, hc i x hx 1 _ rfl, hc i x hx 2 _ rfl⟩⟩
  · rintro ⟨b, off, e, hb, hc⟩
    exact ⟨b, off, e, hb, fun i x hx => ⟨hc i x hx 0 _ rfl, hc i x hx 1 _ rfl, hc i x hx 2 _ rfl, hc i x hx 3 _ rfl, hc i x hx 4 _ rfl, hc i x hx 5 _ rfl, hc i x hx 6 _ rfl, hc i x hx 7 _ rfl⟩⟩
  · rintro ⟨b, off, e, hb, hc⟩
    exact ⟨b, off, e, hb, fun i x hx => ⟨hc i x hx 0 _ rfl, hc i x hx 1 _ rfl, hc i x hx 2 _ rfl, hc i x hx 3 _ rfl, hc i x hx 4 _ rfl, hc i x hx 5 _ rfl, hc i x hx 6 _ rfl⟩⟩
end

end Go.Proofs.Ythlcbjjeklkmfaa
