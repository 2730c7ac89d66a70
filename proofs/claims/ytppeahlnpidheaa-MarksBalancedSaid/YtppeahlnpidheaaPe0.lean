/- JSON texts on lists: the marks that a value goes through; plain. -/
import Derived.Test.YtppeahlnpidheaaPa0
import Derived.Test.YtppeahlnpidheaaLa
import Derived.Test.YtppeahlnpidheaaJe
namespace Go.Proofs.Ytppeahlnpidheaa

/-- Bits from a level on: the level behind them. -/
def lev : Nat → List Bool → Option Nat
  | k, [] => some k
  | k, true :: r => lev (k + 1) r
  | 0, false :: _ => none
  | k + 1, false :: r => lev k r
theorem lev_append : ∀ (a b : List Bool) (k : Nat), lev k (a ++ b) = (lev k a).bind (fun j => lev j b)
  | [], b, k => by simp [lev]
  | true :: a, b, k => by simp only [List.cons_append, lev]; exact lev_append a b _
  | false :: a, b, 0 => by simp [lev]
  | false :: a, b, k + 1 => by simp only [List.cons_append, lev]; exact lev_append a b _
/-- The bits of marks. -/
def bitsOf (cs : List UInt8) : List Bool := cs.flatMap par1
theorem bitsOf_append (a b : List UInt8) : bitsOf (a ++ b) = bitsOf a ++ bitsOf b := by simp [bitsOf]
theorem parB_bits (l : List (Nat × UInt8)) : parB l = bitsOf (l.map (·.2)) := by simp [parB, bitsOf, List.flatMap_map]

/-- From a place outside of strings the next n bytes have the marks cs, and end outside of strings. -/
def Thr (l : List UInt8) (n : Nat) (cs : List UInt8) : Prop :=
  n ≤ l.length ∧ ∃ ms : Nat → List (Nat × UInt8), (∀ p, (ms p).map (·.2) = cs) ∧ ∀ p t, mk 0 (l ++ t) p = ms p ++ mk 0 (l.drop n ++ t) (p + n)
theorem Thr.zero (l : List UInt8) : Thr l 0 [] := ⟨Nat.zero_le _, fun _ => [], fun _ => rfl, fun _ _ => rfl⟩
theorem Thr.trans {l : List UInt8} {n m : Nat} {a b : List UInt8} (h : Thr l n a) (k : Thr (l.drop n) m b) : Thr l (n + m) (a ++ b) := by
  obtain ⟨h1, ms, h2, h3⟩ := h
  obtain ⟨k1, ns, k2, k3⟩ := k
  rw [List.length_drop] at k1
  refine ⟨by omega, fun p => ms p ++ ns (p + n), fun p => by rw [List.map_append, h2, k2], fun p t => ?_⟩
  rw [h3, k3, List.drop_drop, List.append_assoc, Nat.add_assoc]
def plainB (c : UInt8) : Bool := !isMark c.toNat && c != 34
theorem Thr.plain1 {c : UInt8} (r : List UInt8) (h : plainB c = true) : Thr (c :: r) 1 [] := by
  simp only [plainB, Bool.and_eq_true, Bool.not_eq_true', bne_iff_ne, ne_eq] at h
  exact ⟨by simp, fun _ => [], fun _ => rfl, fun p t => by rw [List.cons_append, mk_out_other _ _ _ h.1 h.2]; rfl⟩
theorem Thr.mark {c : UInt8} (r : List UInt8) (h : isMark c.toNat = true) : Thr (c :: r) 1 [c] :=
  ⟨by simp, fun p => [(p, c)], fun _ => rfl, fun p t => by rw [List.cons_append, mk_out_mark _ _ _ h]; rfl⟩
theorem Thr.plain : ∀ (n : Nat) (l : List UInt8), n ≤ l.length → (∀ c ∈ l.take n, plainB c = true) → Thr l n []
  | 0, l, _, _ => Thr.zero l
  | n + 1, [], h, _ => absurd h (by simp)
  | n + 1, c :: r, h, hp => by
    have h1 := Thr.plain1 r (hp c (by simp))
    have h2 := Thr.plain n r (by simpa using h) (fun d hd => hp d (by simp [hd]))
    have := h1.trans h2
    rw [Nat.add_comm] at this; exact this
theorem bl_plain {c : UInt8} (h : isBl c = true) : plainB c = true := by
  have : c = 32 ∨ c = 9 ∨ c = 10 ∨ c = 13 := by simpa [isBl, or_assoc] using h
  rcases this with rfl | rfl | rfl | rfl <;> decide
theorem blN_le (l : List UInt8) : blN l ≤ l.length := by
  induction l with
  | nil => simp [blN]
  | cons c r ih => rw [blN]; split <;> simp <;> omega
theorem Thr.bl : ∀ (l : List UInt8), Thr l (blN l) []
  | [] => Thr.zero _
  | c :: r => by
    rw [blN]; split
    · rename_i h
      have := (Thr.plain1 r (bl_plain h)).trans (Thr.bl r)
      rw [Nat.add_comm] at this; exact this
    · exact Thr.zero _
theorem Thr.str {l : List UInt8} {n : Nat} (h : strL l = some n) : Thr l n [] :=
  ⟨(strL_mk l n h 0 []).1, fun _ => [], fun _ => rfl, fun p t => by rw [(strL_mk l n h p t).2]; rfl⟩
theorem dig_plain {c : UInt8} (h : isDig c = true) : plainB c = true := by
  simp only [isDig, Bool.and_eq_true, decide_eq_true_eq] at h
  simp only [plainB, isMark, Bool.and_eq_true, Bool.not_eq_true', Bool.or_eq_false_iff, beq_eq_false_iff_ne, ne_eq, bne_iff_ne, ← UInt8.toNat_inj]
  have : (34 : UInt8).toNat = 34 := rfl
  refine ⟨⟨⟨⟨⟨⟨?_, ?_⟩, ?_⟩, ?_⟩, ?_⟩, ?_⟩, ?_⟩ <;> omega
theorem Thr.dig : ∀ (l : List UInt8), Thr l (digN l) []
  | [] => Thr.zero _
  | c :: r => by
    rw [digN]; split
    · rename_i h
      have := (Thr.plain1 r (dig_plain h)).trans (Thr.dig r)
      rw [Nat.add_comm] at this; exact this
    · exact Thr.zero _
theorem hd_cons {l : List UInt8} {c : UInt8} (h : hd l c = true) : ∃ r, l = c :: r := by
  cases l with
  | nil => cases h
  | cons x r => simp only [hd, beq_iff_eq] at h; exact ⟨r, by rw [h]⟩
theorem Thr.hd1 {l : List UInt8} {c : UInt8} (h : hd l c = true) (hc : plainB c = true) : Thr l 1 [] := by
  obtain ⟨r, rfl⟩ := hd_cons h
  exact Thr.plain1 r hc
theorem Thr.cast {l : List UInt8} {n m : Nat} {a : List UInt8} (h : Thr l n a) (e : n = m) : Thr l m a := e ▸ h

theorem num6_thr {l : List UInt8} {n : Nat} (h : num6 l = some n) : Thr l n [] := by
  unfold num6 at h; split at h
  · cases h
  · cases h; exact Thr.dig l
theorem num5_thr {l : List UInt8} {n : Nat} (h : num5 l = some n) : Thr l n [] := by
  unfold num5 at h; split at h
  · rename_i hh
    obtain ⟨m, hm, rfl⟩ := Option.map_eq_some_iff.1 h
    have h1 : Thr l 1 [] := by
      rcases Bool.or_eq_true_iff.1 hh with hh | hh
      · exact Thr.hd1 hh (by decide)
      · exact Thr.hd1 hh (by decide)
    exact (h1.trans (num6_thr hm)).cast (by omega)
  · exact num6_thr h
theorem num4_thr {l : List UInt8} {n : Nat} (h : num4 l = some n) : Thr l n [] := by
  unfold num4 at h; split at h
  · rename_i hh
    obtain ⟨m, hm, rfl⟩ := Option.map_eq_some_iff.1 h
    have h1 : Thr l 1 [] := by
      rcases Bool.or_eq_true_iff.1 hh with hh | hh
      · exact Thr.hd1 hh (by decide)
      · exact Thr.hd1 hh (by decide)
    exact (h1.trans (num5_thr hm)).cast (by omega)
  · cases h; exact Thr.zero l
theorem num3_thr {l : List UInt8} {n : Nat} (h : num3 l = some n) : Thr l n [] := by
  unfold num3 at h; split at h
  · rename_i hh
    split at h
    · cases h
    · obtain ⟨m, hm, rfl⟩ := Option.map_eq_some_iff.1 h
      have h2 := (Thr.hd1 hh (by decide)).trans (Thr.dig (l.drop 1))
      have hm' : Thr (l.drop (1 + digN (l.drop 1))) m [] := by rw [Nat.add_comm]; exact num4_thr hm
      exact (h2.trans hm').cast (by omega)
  · exact num4_thr h
theorem num2_thr {l : List UInt8} {n : Nat} (h : num2 l = some n) : Thr l n [] := by
  unfold num2 at h; split at h
  · cases h
  · split at h
    · rename_i hh
      obtain ⟨m, hm, rfl⟩ := Option.map_eq_some_iff.1 h
      exact ((Thr.hd1 hh (by decide)).trans (num3_thr hm)).cast (by omega)
    · obtain ⟨m, hm, rfl⟩ := Option.map_eq_some_iff.1 h
      exact ((Thr.dig l).trans (num3_thr hm)).cast (by omega)
theorem numL_thr {l : List UInt8} {n : Nat} (h : numL l = some n) : Thr l n [] := by
  unfold numL at h; split at h
  · rename_i hh
    obtain ⟨m, hm, rfl⟩ := Option.map_eq_some_iff.1 h
    exact ((Thr.hd1 hh (by decide)).trans (num2_thr hm)).cast (by omega)
  · exact num2_thr h
theorem wordL_thr {w l : List UInt8} {n : Nat} (h : wordL w l = some n) (hw : w.all plainB = true) : Thr l n [] := by
  unfold wordL at h; split at h
  · rename_i hh
    cases h
    have hl := congrArg List.length hh
    rw [List.length_take] at hl
    exact Thr.plain _ l (by omega) (fun c hc => by rw [hh] at hc; exact List.all_eq_true.1 hw c hc)
  · cases h

/-- The marks of a value leave the level as it was; those behind a first bracket end two lower. -/
def Bal (cs : List UInt8) : Prop := ∀ k, lev k (bitsOf cs) = some k
def Bal2 (cs : List UInt8) : Prop := ∀ k, lev (k + 2) (bitsOf cs) = some k
theorem Bal.nil : Bal [] := fun _ => rfl
theorem Bal.wrap {cs : List UInt8} {c : UInt8} (hc : c = 91 ∨ c = 123) (h : Bal2 cs) : Bal (c :: cs) := by
  intro k
  have e : bitsOf (c :: cs) = true :: true :: bitsOf cs := by rcases hc with rfl | rfl <;> rfl
  rw [e, lev, lev]; exact h k
theorem Bal2.close {c : UInt8} (hc : c = 93 ∨ c = 125) : Bal2 [c] := by
  intro k
  have e : bitsOf [c] = [false, false] := by rcases hc with rfl | rfl <;> rfl
  rw [e]; rfl
theorem Bal2.cons {a b : List UInt8} (h : Bal a) (k : Bal2 b) : Bal2 (a ++ b) := by
  intro j
  rw [bitsOf_append, lev_append, h]; exact k j
theorem Bal2.comma {b : List UInt8} {c : UInt8} (hc : c = 44 ∨ c = 58) (k : Bal2 b) : Bal2 (c :: b) := by
  intro j
  have e : bitsOf (c :: b) = false :: true :: bitsOf b := by rcases hc with rfl | rfl <;> rfl
  rw [e]; exact k j
theorem Bal.app {a b : List UInt8} (h : Bal a) (k : Bal b) : Bal (a ++ b) := by
  intro j; rw [bitsOf_append, lev_append, h]; exact k j

def ValOK (f : Nat) : Prop := ∀ l n d, valL f l = some (n, d) → ∃ cs, Thr l n cs ∧ Bal cs
/-- An item: a value; or a member, whose colon is a mark between two slots. -/
def BalI (cs : List UInt8) : Prop := ∀ k, lev (k + 1) (bitsOf cs) = some (k + 1)
def ItemOK (f : Nat) : Prop := ∀ z l n d, (z = 93 ∨ z = 125) → itemL f z l = some (n, d) → ∃ cs, Thr l n cs ∧ BalI cs
def ItemsOK (f : Nat) : Prop := ∀ z l d0 n d, (z = 93 ∨ z = 125) → itemsL f z l d0 = some (n, d) → ∃ cs, Thr l n cs ∧ Bal2 cs
def ManyOK (f : Nat) : Prop := ∀ z l n d, (z = 93 ∨ z = 125) → manyL f z l = some (n, d) → ∃ cs, Thr l n cs ∧ Bal2 cs
theorem BalI.of {cs : List UInt8} (h : Bal cs) : BalI cs := fun k => h (k + 1)
theorem BalI.member {a : List UInt8} (h : Bal a) : BalI (58 :: a) := by
  intro k
  have e : bitsOf (58 :: a) = false :: true :: bitsOf a := rfl
  rw [e]; exact h (k + 1)
theorem Bal2.consI {a b : List UInt8} (h : BalI a) (k : Bal2 b) : Bal2 (a ++ b) := by
  intro j
  rw [bitsOf_append, lev_append, h (j + 1)]; exact k j

theorem bl_hd {l : List UInt8} {z : UInt8} (h : hd (l.drop (blN l)) z = true) (hz : isMark z.toNat = true) : Thr l (blN l + 1) [z] := by
  obtain ⟨r, hr⟩ := hd_cons h
  have := (Thr.bl l).trans (m := 1) (b := [z]) (by rw [hr]; exact Thr.mark r hz)
  exact this
theorem z_mark {z : UInt8} (hz : z = 93 ∨ z = 125) : isMark z.toNat = true := by rcases hz with rfl | rfl <;> decide

theorem all_ok : ∀ f, ValOK f ∧ ItemOK f ∧ ItemsOK f ∧ ManyOK f
  | 0 => ⟨fun l n d h => by simp [valL] at h, fun z l n d _ h => by simp [itemL] at h, fun z l d0 n d _ h => by simp [itemsL] at h, fun z l n d _ h => by simp [manyL] at h⟩
  | f + 1 => by
    obtain ⟨hV, hI, hS, hM⟩ := all_ok f
    refine ⟨?_, ?_, ?_, ?_⟩
    · intro l n d h
      rw [valL] at h
      split at h
      · cases h
      · rename_i c r hr
        have fin : ∀ {o : Option Nat}, o.map (fun n => (blN l + n, 0)) = some (n, d) → (∀ m, o = some m → Thr (c :: r) m []) → ∃ cs, Thr l n cs ∧ Bal cs := by
          intro o ho ht
          obtain ⟨m, hm, e⟩ := Option.map_eq_some_iff.1 ho
          cases e
          exact ⟨[], (Thr.bl l).trans (by rw [hr]; exact ht m hm), Bal.nil⟩
        have fin2 : ∀ {z : UInt8}, (z = 93 ∨ z = 125) → (c = 91 ∨ c = 123) → (manyL f z r).map (fun x => (blN l + 1 + x.1, x.2)) = some (n, d) → ∃ cs, Thr l n cs ∧ Bal cs := by
          intro z hz hc ho
          obtain ⟨⟨m, e'⟩, hm, e⟩ := Option.map_eq_some_iff.1 ho
          cases e
          obtain ⟨cs, ht, hb⟩ := hM z r m e' hz hm
          refine ⟨c :: cs, ?_, Bal.wrap hc hb⟩
          have h1 := (Thr.bl l).trans (m := 1) (b := [c]) (by rw [hr]; exact Thr.mark r (by rcases hc with rfl | rfl <;> decide))
          have h2 := h1.trans (m := m) (b := cs) (by rw [← List.drop_drop, hr]; exact ht)
          exact h2
        split at h
        · exact fin h (fun m hm => wordL_thr hm (by decide))
        · split at h
          · exact fin h (fun m hm => wordL_thr hm (by decide))
          · split at h
            · exact fin h (fun m hm => wordL_thr hm (by decide))
            · split at h
              · exact fin h (fun m hm => Thr.str hm)
              · split at h
                · exact fin2 (.inl rfl) (.inl ‹_›) h
                · split at h
                  · exact fin2 (.inr rfl) (.inr ‹_›) h
                  · exact fin h (fun m hm => numL_thr hm)
    · intro z l n d hz h
      rw [itemL] at h
      split at h
      · obtain ⟨cs, h1, h2⟩ := hV l n d h
        exact ⟨cs, h1, BalI.of h2⟩
      · split at h
        · cases h
        · rename_i k hk
          split at h
          · rename_i hh
            obtain ⟨⟨m, e'⟩, hm, e⟩ := Option.map_eq_some_iff.1 h
            cases e
            obtain ⟨cs, ht, hb⟩ := hV _ m e' hm
            refine ⟨58 :: cs, ?_, BalI.member hb⟩
            have h1 := (Thr.bl l).trans (Thr.str hk)
            have h2 := h1.trans (m := blN (l.drop (blN l + k)) + 1) (b := [58]) (bl_hd (by rw [List.drop_drop]; exact hh) (by decide))
            have h3 := h2.trans (m := m) (b := cs) (by simpa [Nat.add_assoc] using ht)
            exact h3.cast (by simp only [Nat.add_assoc])
          · cases h
    · intro z l d0 n d hz h
      rw [itemsL] at h
      split at h
      · cases h
      · rename_i m e' hm
        obtain ⟨cs, h1, h2⟩ := hI z l m e' hz hm
        split at h
        · cases h
        · rename_i c r hr
          split at h
          · rename_i hc
            cases h
            subst hc
            refine ⟨cs ++ [c], ?_, Bal2.consI h2 (Bal2.close hz)⟩
            have := h1.trans (bl_hd (z := c) (by rw [hr]; simp [hd]) (z_mark hz))
            exact this.cast (by omega)
          · split at h
            · rename_i hc
              obtain ⟨⟨j, e''⟩, hj, e⟩ := Option.map_eq_some_iff.1 h
              cases e
              subst hc
              obtain ⟨ds, k1, k2⟩ := hS z r _ j e'' hz hj
              refine ⟨cs ++ ([44] ++ ds), ?_, Bal2.consI h2 (Bal2.comma (.inl rfl) k2)⟩
              have g1 := bl_hd (l := l.drop m) (z := 44) (by rw [hr]; simp [hd]) (by decide)
              have g2 := g1.trans (m := j) (b := ds) (by rw [← List.drop_drop, hr]; exact k1)
              exact (h1.trans g2).cast (by omega)
            · cases h
    · intro z l n d hz h
      rw [manyL] at h
      split at h
      · rename_i hh
        cases h
        exact ⟨[z], bl_hd hh (z_mark hz), Bal2.close hz⟩
      · obtain ⟨⟨m, e'⟩, hm, e⟩ := Option.map_eq_some_iff.1 h
        cases e
        obtain ⟨cs, h1, h2⟩ := hS z _ _ m e' hz hm
        exact ⟨cs, ((Thr.bl l).trans h1), h2⟩

theorem text_thr {l : List UInt8} {d : Nat} (h : textL l = some d) : ∃ cs, Thr l l.length cs ∧ Bal cs := by
  unfold textL at h
  split at h
  · cases h
  · rename_i n d' hv
    split at h
    · rename_i hl
      obtain ⟨cs, h1, h2⟩ := (all_ok _).1 _ _ _ hv
      refine ⟨cs, ?_, h2⟩
      have := h1.trans (Thr.bl _)
      rw [List.append_nil] at this
      exact this.cast hl
    · cases h
/-- MarksTwo's plain law. -/
theorem marks_two {s : List UInt8} {d : Nat} (h : textL s = some d) (t : List UInt8) : ∀ p, mk 0 (s ++ t) p = mk 0 s p ++ mk 0 t (p + s.length) := by
  obtain ⟨cs, ⟨_, ms, _, h3⟩, _⟩ := text_thr h
  intro p
  have h1 := h3 p t
  have h2 := h3 p []
  rw [List.drop_length, List.nil_append] at h1 h2
  rw [mk_nil, List.append_nil, List.append_nil] at h2
  rw [h1, h2]
theorem marks_bal {s : List UInt8} {d : Nat} (h : textL s = some d) (p k : Nat) : lev k (parB (mk 0 s p)) = some k := by
  obtain ⟨cs, ⟨_, ms, h2, h3⟩, hb⟩ := text_thr h
  have h1 := h3 p []
  rw [List.drop_length, List.nil_append, mk_nil, List.append_nil, List.append_nil] at h1
  rw [h1, parB_bits, h2]; exact hb k

end Go.Proofs.Ytppeahlnpidheaa
