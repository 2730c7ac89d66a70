/- marks.Parens. -/
import Derived.Test.YtppeahlnpidheaaJd
namespace Go.Proofs.Ytppeahlnpidheaa
open Go.RowKit Go.Shelf

attribute [local go_sem] Oper.semAt_some

/-- The bits of a mark. -/
def par1 (c : UInt8) : List Bool := if c.toNat = 91 ∨ c.toNat = 123 then [true, true] else if c.toNat = 93 ∨ c.toNat = 125 then [false, false] else [false, true]
def parB (l : List (Nat × UInt8)) : List Bool := l.flatMap fun x => par1 x.2
theorem parB_snoc (pre : List (Nat × UInt8)) (x : Nat × UInt8) : parB (pre ++ [x]) = parB pre ++ par1 x.2 := by simp [parB]
theorem parB_len (pre : List (Nat × UInt8)) : (parB pre).length ≤ 2 * pre.length := by
  induction pre with
  | nil => simp [parB]
  | cons x l ih =>
    have h2 : (par1 x.2).length = 2 := by
      unfold par1
      split
      · rfl
      · split <;> rfl
    have e : parB (x :: l) = par1 x.2 ++ parB l := rfl
    rw [e]; simp only [List.length_append, List.length_cons]; omega
theorem parB_open (pre : List (Nat × UInt8)) (x : Nat × UInt8) (h : (x.2.toNat : Int) = 91 ∨ (x.2.toNat : Int) = 123) : parB (pre ++ [x]) = parB pre ++ [true, true] := by
  rw [parB_snoc, par1, if_pos (by omega)]
theorem parB_close (pre : List (Nat × UInt8)) (x : Nat × UInt8) (h : (x.2.toNat : Int) = 93 ∨ (x.2.toNat : Int) = 125) : parB (pre ++ [x]) = parB pre ++ [false, false] := by
  rw [parB_snoc, par1, if_neg (by omega), if_pos (by omega)]
theorem parB_other (pre : List (Nat × UInt8)) (x : Nat × UInt8) (h1 : ¬ (x.2.toNat : Int) = 91) (h2 : ¬ (x.2.toNat : Int) = 123) (h3 : ¬ (x.2.toNat : Int) = 93) (h4 : ¬ (x.2.toNat : Int) = 125) : parB (pre ++ [x]) = parB pre ++ [false, true] := by
  rw [parB_snoc, par1, if_neg (by omega), if_neg (by omega)]
set_option maxRecDepth 100000 in
set_option maxHeartbeats 2000000 in
theorem parens_in (n : Nat) (hn : 3 ≤ n) (s : ByteArray) (hs : s.size * 2 ≤ 140737488355328) (w : World) :
    CallsIn Fence.wide n Try.prog 15 #[.string s] w fun e W' => ∃ v, e = .returned v ∧ W'.ownsRow w.heap.size 4 1 v (parB (mk 0 s.data.toList 0)).length ((parB (mk 0 s.data.toList 0)).map Value.bool) ∧ (v = .slice none 0 0 ↔ parB (mk 0 s.data.toList 0) = []) ∧ Below w.heap.size w W' := by
  have h1 : 1 ≤ n := by omega
  have hml : (mk 0 s.data.toList 0).length ≤ s.size := by have := mk_len 0 s.data.toList 0; simpa using this
  obtain ⟨i0, hi, hz0, hz1, hz2⟩ := info_parts info_bool
  refine callsIn_of_wp_marks Try.func15 rfl trivial ?_ rfl
  simp only [Try.ntmps15, List.size_toArray, List.length_cons, List.length_nil, Nat.reduceAdd, Nat.reduceSub, Array.replicate_succ, Array.replicate_zero, List.push_toArray, List.append_toArray, List.nil_append, List.cons_append]
  gi_wp2_with (refine ⟨trivial, ?_⟩; gi_at_call 23; refine (each_in (n - 1) _ _).mono ?_; rintro e w' ⟨rfl, rfl⟩)
  have bO := Boxed.new w 32 (.slice none 0 0)
  have bN := Boxed.new (w.alloc (.cells #[.slice none 0 0] 32)) 9 (.string s)
  rw [World.size_alloc] at bN
  have hB0 : Below w.heap.size w ((w.alloc (.cells #[.slice none 0 0] 32)).alloc (.cells #[.string s] 9)) := ((Below.refl _ w).alloc (Nat.le_refl _) _).alloc (by simp) _
  refine wpIn_rangeFunc_ownG rfl h1 (gf := 30) (lb := #[.pointer (some ⟨w.heap.size + 1, 0, none⟩)]) rfl trivial (enters_of Try.func30 (by kernel_rfl) rfl)
    (each_stops (n - 1) (by omega) (w.heap.size + 1) s (by unfold maxLen; omega) _ (by simp) bN.cell) KpB.t (KpB.b (by simp)) (Below.refl _ _) (fun _ => rfl)
    (fun pre W => (∃ v, Boxed W w.heap.size 32 v ∧ W.ownsRow w.heap.size 4 1 v (parB pre).length ((parB pre).map Value.bool) ∧ (v = .slice none 0 0 ↔ parB pre = [])) ∧ Boxed W (w.heap.size + 1) 9 (.string s) ∧ Below w.heap.size w W)
    (fun _ _ _ => False)
    (OwnFrom.and (Own.from (holdsRow_own w.heap.size w.heap.size 32 4 1 (fun pre => (parB pre).length) (fun pre => (parB pre).map Value.bool) (fun pre v => v = .slice none 0 0 ↔ parB pre = [])) _) (OwnFrom.and (Own.from (boxed_own (w.heap.size + 1) 9 (fun _ => .string s)) _) (ownFrom_below (Nat.le_refl _) (by simp; omega))))
    (fun _ _ _ _ _ hs _ _ => hs)
    ⟨⟨_, bO.alloc _, World.ownsRow_nil _ _ _ _, by simp [parB]⟩, bN, hB0⟩
    (fun x => { tmps := #[.string s, undef, .slice none 0 0, .pointer (some ⟨w.heap.size, 0, none⟩), undef, .int .u8 x.2.toNat, .string s, .func (.func 30) #[] #[.pointer (some ⟨w.heap.size + 1, 0, none⟩)], .int .i64 x.1, .int .u8 x.2.toNat, undef, undef, undef, undef, undef, undef, undef, undef, undef, undef, undef, undef, undef, undef, undef, undef, undef], defers := [] }) ?assign ?body ?done ?stop
  case assign =>
    intro l x W K hK
    gi_wp2
    exact hK
  case body =>
    rintro l pre x W ⟨⟨v, hv, hrow, hnil⟩, hS, hB⟩ hlt
    have hc := hv.cell
    have hpl : (parB pre).length ≤ 2 * pre.length := parB_len pre
    by_cases h91 : ((x.2.toNat : Int) == 91) = true
    · gi_wp2_with (gi_at_builtin; refine wpListIn_append_own _ rfl _ _ 32 rfl w.heap.size 4 i0 (.bool false) 1 1 Try.underlying32 hi hz0 hz1 hz2 rfl (by decide) _ _ _ rfl (hrow.alloc _) ⟨W.heap.size, 0, none⟩ 2 2 [.bool true, .bool true] rfl rfl (cell_two_new _ _ _ _) (by simp [Value.oneCell']) (by unfold maxLen; omega) (by omega) (by have := hB.size; simp; omega) ?_; intro v' w1 hown' hgrow _; obtain ⟨g', cap', rfl⟩ := ownsRow_succ hown'; obtain ⟨hv1, hv2, hr2, hk2, hb2⟩ := hv.appended (by decide) hrow hB.size (Nat.le_refl _) hown' hgrow; have hc1 := hv1.cell; have hf1 := hv1.frozen; have hS2 := hS.appended2 hrow hgrow (by decide) (by omega : w.heap.size + 1 ≠ w.heap.size) (.slice (some ⟨g', 0, none⟩) ((parB pre).length + 1 + 1) cap'))
      exact ⟨hk2.from _, KpB.box hS hS2, ⟨_, hv2, by rw [parB_open pre x (.inl (by first | omega | (simp only [beq_iff_eq] at *; omega) | (simp only [beq_eq_false_iff_ne, ne_eq] at *; omega) | (simp only [bne_iff_ne, ne_eq] at *; omega) | (simp only [bne_eq_false_iff_eq] at *; omega)))]; simpa using hr2, by rw [parB_open pre x (.inl (by first | omega | (simp only [beq_iff_eq] at *; omega) | (simp only [beq_eq_false_iff_ne, ne_eq] at *; omega) | (simp only [bne_iff_ne, ne_eq] at *; omega) | (simp only [bne_eq_false_iff_eq] at *; omega)))]; simp⟩, hS2, hB.trans hb2⟩
    · have h91 : ((x.2.toNat : Int) == 91) = false := by simpa using h91
      by_cases h123 : ((x.2.toNat : Int) == 123) = true
      · gi_wp2_with (gi_at_builtin; refine wpListIn_append_own _ rfl _ _ 32 rfl w.heap.size 4 i0 (.bool false) 1 1 Try.underlying32 hi hz0 hz1 hz2 rfl (by decide) _ _ _ rfl (hrow.alloc _) ⟨W.heap.size, 0, none⟩ 2 2 [.bool true, .bool true] rfl rfl (cell_two_new _ _ _ _) (by simp [Value.oneCell']) (by unfold maxLen; omega) (by omega) (by have := hB.size; simp; omega) ?_; intro v' w1 hown' hgrow _; obtain ⟨g', cap', rfl⟩ := ownsRow_succ hown'; obtain ⟨hv1, hv2, hr2, hk2, hb2⟩ := hv.appended (by decide) hrow hB.size (Nat.le_refl _) hown' hgrow; have hc1 := hv1.cell; have hf1 := hv1.frozen; have hS2 := hS.appended2 hrow hgrow (by decide) (by omega : w.heap.size + 1 ≠ w.heap.size) (.slice (some ⟨g', 0, none⟩) ((parB pre).length + 1 + 1) cap'))
        exact ⟨hk2.from _, KpB.box hS hS2, ⟨_, hv2, by rw [parB_open pre x (.inr (by first | omega | (simp only [beq_iff_eq] at *; omega) | (simp only [beq_eq_false_iff_ne, ne_eq] at *; omega) | (simp only [bne_iff_ne, ne_eq] at *; omega) | (simp only [bne_eq_false_iff_eq] at *; omega)))]; simpa using hr2, by rw [parB_open pre x (.inr (by first | omega | (simp only [beq_iff_eq] at *; omega) | (simp only [beq_eq_false_iff_ne, ne_eq] at *; omega) | (simp only [bne_iff_ne, ne_eq] at *; omega) | (simp only [bne_eq_false_iff_eq] at *; omega)))]; simp⟩, hS2, hB.trans hb2⟩
      · have h123 : ((x.2.toNat : Int) == 123) = false := by simpa using h123
        by_cases h93 : ((x.2.toNat : Int) == 93) = true
        · gi_wp2_with (gi_at_builtin; refine wpListIn_append_own _ rfl _ _ 32 rfl w.heap.size 4 i0 (.bool false) 1 1 Try.underlying32 hi hz0 hz1 hz2 rfl (by decide) _ _ _ rfl (hrow.alloc _) ⟨W.heap.size, 0, none⟩ 2 2 [.bool false, .bool false] rfl rfl (cell_two_new _ _ _ _) (by simp [Value.oneCell']) (by unfold maxLen; omega) (by omega) (by have := hB.size; simp; omega) ?_; intro v' w1 hown' hgrow _; obtain ⟨g', cap', rfl⟩ := ownsRow_succ hown'; obtain ⟨hv1, hv2, hr2, hk2, hb2⟩ := hv.appended (by decide) hrow hB.size (Nat.le_refl _) hown' hgrow; have hc1 := hv1.cell; have hf1 := hv1.frozen; have hS2 := hS.appended2 hrow hgrow (by decide) (by omega : w.heap.size + 1 ≠ w.heap.size) (.slice (some ⟨g', 0, none⟩) ((parB pre).length + 1 + 1) cap'))
          exact ⟨hk2.from _, KpB.box hS hS2, ⟨_, hv2, by rw [parB_close pre x (.inl (by first | omega | (simp only [beq_iff_eq] at *; omega) | (simp only [beq_eq_false_iff_ne, ne_eq] at *; omega) | (simp only [bne_iff_ne, ne_eq] at *; omega) | (simp only [bne_eq_false_iff_eq] at *; omega)))]; simpa using hr2, by rw [parB_close pre x (.inl (by first | omega | (simp only [beq_iff_eq] at *; omega) | (simp only [beq_eq_false_iff_ne, ne_eq] at *; omega) | (simp only [bne_iff_ne, ne_eq] at *; omega) | (simp only [bne_eq_false_iff_eq] at *; omega)))]; simp⟩, hS2, hB.trans hb2⟩
        · have h93 : ((x.2.toNat : Int) == 93) = false := by simpa using h93
          by_cases h125 : ((x.2.toNat : Int) == 125) = true
          · gi_wp2_with (gi_at_builtin; refine wpListIn_append_own _ rfl _ _ 32 rfl w.heap.size 4 i0 (.bool false) 1 1 Try.underlying32 hi hz0 hz1 hz2 rfl (by decide) _ _ _ rfl (hrow.alloc _) ⟨W.heap.size, 0, none⟩ 2 2 [.bool false, .bool false] rfl rfl (cell_two_new _ _ _ _) (by simp [Value.oneCell']) (by unfold maxLen; omega) (by omega) (by have := hB.size; simp; omega) ?_; intro v' w1 hown' hgrow _; obtain ⟨g', cap', rfl⟩ := ownsRow_succ hown'; obtain ⟨hv1, hv2, hr2, hk2, hb2⟩ := hv.appended (by decide) hrow hB.size (Nat.le_refl _) hown' hgrow; have hc1 := hv1.cell; have hf1 := hv1.frozen; have hS2 := hS.appended2 hrow hgrow (by decide) (by omega : w.heap.size + 1 ≠ w.heap.size) (.slice (some ⟨g', 0, none⟩) ((parB pre).length + 1 + 1) cap'))
            exact ⟨hk2.from _, KpB.box hS hS2, ⟨_, hv2, by rw [parB_close pre x (.inr (by first | omega | (simp only [beq_iff_eq] at *; omega) | (simp only [beq_eq_false_iff_ne, ne_eq] at *; omega) | (simp only [bne_iff_ne, ne_eq] at *; omega) | (simp only [bne_eq_false_iff_eq] at *; omega)))]; simpa using hr2, by rw [parB_close pre x (.inr (by first | omega | (simp only [beq_iff_eq] at *; omega) | (simp only [beq_eq_false_iff_ne, ne_eq] at *; omega) | (simp only [bne_iff_ne, ne_eq] at *; omega) | (simp only [bne_eq_false_iff_eq] at *; omega)))]; simp⟩, hS2, hB.trans hb2⟩
          · have h125 : ((x.2.toNat : Int) == 125) = false := by simpa using h125
            gi_wp2_with (gi_at_builtin; refine wpListIn_append_own _ rfl _ _ 32 rfl w.heap.size 4 i0 (.bool false) 1 1 Try.underlying32 hi hz0 hz1 hz2 rfl (by decide) _ _ _ rfl (hrow.alloc _) ⟨W.heap.size, 0, none⟩ 2 2 [.bool false, .bool true] rfl rfl (cell_two_new _ _ _ _) (by simp [Value.oneCell']) (by unfold maxLen; omega) (by omega) (by have := hB.size; simp; omega) ?_; intro v' w1 hown' hgrow _; obtain ⟨g', cap', rfl⟩ := ownsRow_succ hown'; obtain ⟨hv1, hv2, hr2, hk2, hb2⟩ := hv.appended (by decide) hrow hB.size (Nat.le_refl _) hown' hgrow; have hc1 := hv1.cell; have hf1 := hv1.frozen; have hS2 := hS.appended2 hrow hgrow (by decide) (by omega : w.heap.size + 1 ≠ w.heap.size) (.slice (some ⟨g', 0, none⟩) ((parB pre).length + 1 + 1) cap'))
            exact ⟨hk2.from _, KpB.box hS hS2, ⟨_, hv2, by rw [parB_other pre x (by first | omega | (simp only [beq_iff_eq] at *; omega) | (simp only [beq_eq_false_iff_ne, ne_eq] at *; omega) | (simp only [bne_iff_ne, ne_eq] at *; omega) | (simp only [bne_eq_false_iff_eq] at *; omega)) (by first | omega | (simp only [beq_iff_eq] at *; omega) | (simp only [beq_eq_false_iff_ne, ne_eq] at *; omega) | (simp only [bne_iff_ne, ne_eq] at *; omega) | (simp only [bne_eq_false_iff_eq] at *; omega)) (by first | omega | (simp only [beq_iff_eq] at *; omega) | (simp only [beq_eq_false_iff_ne, ne_eq] at *; omega) | (simp only [bne_iff_ne, ne_eq] at *; omega) | (simp only [bne_eq_false_iff_eq] at *; omega)) (by first | omega | (simp only [beq_iff_eq] at *; omega) | (simp only [beq_eq_false_iff_ne, ne_eq] at *; omega) | (simp only [bne_iff_ne, ne_eq] at *; omega) | (simp only [bne_eq_false_iff_eq] at *; omega))]; simpa using hr2, by rw [parB_other pre x (by first | omega | (simp only [beq_iff_eq] at *; omega) | (simp only [beq_eq_false_iff_ne, ne_eq] at *; omega) | (simp only [bne_iff_ne, ne_eq] at *; omega) | (simp only [bne_eq_false_iff_eq] at *; omega)) (by first | omega | (simp only [beq_iff_eq] at *; omega) | (simp only [beq_eq_false_iff_ne, ne_eq] at *; omega) | (simp only [bne_iff_ne, ne_eq] at *; omega) | (simp only [bne_eq_false_iff_eq] at *; omega)) (by first | omega | (simp only [beq_iff_eq] at *; omega) | (simp only [beq_eq_false_iff_ne, ne_eq] at *; omega) | (simp only [bne_iff_ne, ne_eq] at *; omega) | (simp only [bne_eq_false_iff_eq] at *; omega)) (by first | omega | (simp only [beq_iff_eq] at *; omega) | (simp only [beq_eq_false_iff_ne, ne_eq] at *; omega) | (simp only [bne_iff_ne, ne_eq] at *; omega) | (simp only [bne_eq_false_iff_eq] at *; omega))]; simp⟩, hS2, hB.trans hb2⟩
  case done =>
    rintro D ys W hD rfl ⟨⟨v, hv, hrow, hnil⟩, hS, hB⟩ hK
    have hc := hv.cell
    gi_wp2
    refine ⟨by simp, .inl ⟨_, _, rfl, run_takeDeferred hK, ?_⟩⟩
    exact ⟨_, results_tmp rfl _ _ _, v, rfl, ownsRow_putObj hrow _ hK rfl, hnil, hB.trans (belowK_b (w := w) (Nat.le_refl _) W D _ _ (by simp at hD; omega) hK rfl rfl)⟩
  case stop =>
    rintro D c pre W _ _ h _
    exact h.elim


end Go.Proofs.Ytppeahlnpidheaa
