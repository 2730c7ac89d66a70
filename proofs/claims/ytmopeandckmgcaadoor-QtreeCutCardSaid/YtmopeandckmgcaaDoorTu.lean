/- QtreeCut's law, plain: a query cut short, or with a bracket or a comma more (no word of a dump). -/
import Derived.Test.YtmopeandckmgcaaDoorTt
namespace Go.Proofs.YtmopeandckmgcaaDoor

theorem bkN_sep (c : UInt8) (q : List UInt8) (hc : isBk c = false) : ∀ u : List UInt8, bkN (u ++ c :: q) = bkN u
  | [] => by
    show bkN (c :: q) = 0
    rw [bkN, if_neg (by rw [hc]; decide)]
  | d :: u => by
    rw [List.cons_append, bkN, bkN, bkN_sep c q hc u]
theorem tok_sep (c : UInt8) (q : List UInt8) (hc : c = 44 ∨ c = 93) : tokT (c :: q) = .ok (1, [c], 0, 1) := by
  rcases hc with rfl | rfl <;> rfl
theorem sep_bk {c : UInt8} (hc : c = 44 ∨ c = 93) : isBk c = false ∧ sep c = true := by
  rcases hc with rfl | rfl <;> exact ⟨by decide, by decide⟩
/-- The tokens of a text that ends in a bracket, and of what is made of it. -/
theorem lexF_cut : ∀ (f a : Nat) (u0 : List UInt8) (r : List TokD), (u0 ++ [93]).length < f → lexF f a (u0 ++ [93]) = .ok r → ∃ r0 g, r = r0 ++ [⟨1, [93], 0, a + u0.length, g⟩] ∧
    (∀ F m, u0.length < F → lexF F a u0 = .ok m → m = r0) ∧
    (∀ (c : UInt8) (q : List UInt8) (F' : Nat) (m : List TokD), c = 44 ∨ c = 93 → q.length < F' → lexF F' (a + u0.length + 1) q = .ok m → ∀ F, (u0 ++ c :: q).length < F → lexF F a (u0 ++ c :: q) = .ok (r0 ++ ⟨1, [c], 0, a + u0.length, g⟩ :: m))
  | 0, _, _, _, hf, _ => absurd hf (by omega)
  | f + 1, a, u0, r, hf, h => by
    obtain ⟨k, t, v, n, r', hc, hne, ht, hn, hl, hbn, hr, rfl⟩ := lexF_inv (by simp) h
    obtain ⟨g, hg⟩ : ∃ g, bkN u0 = g := ⟨_, rfl⟩
    have hgle : g ≤ u0.length := by rw [← hg]; exact bkN_le u0
    rw [bkN_sep 93 [] (by decide) u0, hg] at hc hne ht hl hbn hr ⊢
    have hd : (u0 ++ [93]).drop g = u0.drop g ++ [93] := List.drop_append_of_le_length hgle
    rw [hd] at hc hne ht hl
    rw [List.length_append, List.length_cons, List.length_nil] at hf
    by_cases hp : u0.drop g = []
    · have hgl : g = u0.length := by
        have := congrArg List.length hp
        rw [List.length_drop, List.length_nil] at this
        omega
      rw [hp, List.nil_append, tok_sep 93 [] (.inr rfl)] at ht
      simp only [Except.ok.injEq, Prod.mk.injEq] at ht
      obtain ⟨rfl, rfl, rfl, rfl⟩ := ht
      have hr0 : r' = [] := by
        rw [List.drop_of_length_le (by rw [List.length_append, List.length_cons, List.length_nil]; omega), lexF_nil] at hr
        exact (Except.ok.inj hr).symm
      subst hr0
      refine ⟨[], decide (0 < g), by rw [hgl]; rfl, fun F m hF hm => ?_, fun c q F' m hcc hF' hm F hF => ?_⟩
      · by_cases hu : u0 = []
        · subst hu
          rw [lexF_nil] at hm
          exact (Except.ok.inj hm).symm
        · obtain ⟨F, rfl⟩ : ∃ F0, F = F0 + 1 := ⟨F - 1, by omega⟩
          obtain ⟨_, _, _, _, _, _, hne2, _⟩ := lexF_inv hu hm
          rw [hg] at hne2
          exact absurd hp hne2
      · obtain ⟨F, rfl⟩ : ∃ F0, F = F0 + 1 := ⟨F - 1, by omega⟩
        rw [List.length_append, List.length_cons] at hF
        have hdc : (u0 ++ c :: q).drop g = c :: q := by rw [List.drop_append_of_le_length hgle, hp]; rfl
        have hdq : (u0 ++ c :: q).drop (g + 1) = q := by rw [← List.drop_drop, hdc]; rfl
        have e := lexF_mk (f := F) (a := a) (u := u0 ++ c :: q) (g := g) (r := m) (by simp) (by rw [bkN_sep c q (sep_bk hcc).1]; exact hg)
          (fun hh => hc ⟨hh.1, hh.2.imp id fun e => by rw [hdc] at e; cases e⟩) (by rw [hdc]; exact tok_sep c q hcc) (by
            rw [hdq, lexF_fuel F F' _ _ (by omega) hF', hgl]; exact hm)
        rw [e, hgl]
        rfl
    · have hnp : n ≤ (u0.drop g).length := tok_end hp ht
      have ht0 := tokT_back2 (u0.drop g) [93] (.inr ⟨93, [], rfl, by decide⟩) hp k t v n ht hnp
      rw [List.length_drop] at hnp
      have hdn : ∀ w : List UInt8, (u0 ++ w).drop (g + n) = u0.drop (g + n) ++ w := fun w => List.drop_append_of_le_length (by omega)
      rw [hdn] at hr
      have hlen : (u0.drop (g + n)).length = u0.length - (g + n) := List.length_drop
      obtain ⟨r0, g', rfl, i2, i3⟩ := lexF_cut f (a + g + n) (u0.drop (g + n)) r' (by rw [List.length_append, hlen, List.length_cons, List.length_nil]; omega) hr
      have hat : a + g + n + (u0.drop (g + n)).length = a + u0.length := by rw [hlen]; omega
      rw [hat] at i3 ⊢
      refine ⟨⟨k, t, v, a + g, decide (0 < g)⟩ :: r0, g', rfl, fun F m hF hm => ?_, fun c q F' m hcc hF' hm F hF => ?_⟩
      · have hu : u0 ≠ [] := fun e => by rw [e] at hp; exact hp (by simp)
        obtain ⟨F, rfl⟩ : ∃ F0, F = F0 + 1 := ⟨F - 1, by omega⟩
        obtain ⟨k2, t2, v2, n2, r2, _, _, ht2, _, _, _, hr2, rfl⟩ := lexF_inv hu hm
        rw [hg] at ht2 hr2 ⊢
        rw [ht0] at ht2
        simp only [Except.ok.injEq, Prod.mk.injEq] at ht2
        obtain ⟨rfl, rfl, rfl, rfl⟩ := ht2
        rw [i2 F r2 (by rw [hlen]; omega) hr2]
      · obtain ⟨F, rfl⟩ : ∃ F0, F = F0 + 1 := ⟨F - 1, by omega⟩
        rw [List.length_append, List.length_cons] at hF
        have hdc : (u0 ++ c :: q).drop g = u0.drop g ++ c :: q := List.drop_append_of_le_length hgle
        have e := lexF_mk (f := F) (a := a) (u := u0 ++ c :: q) (g := g) (r := r0 ++ ⟨1, [c], 0, a + u0.length, g'⟩ :: m) (by simp) (by rw [bkN_sep c q (sep_bk hcc).1]; exact hg)
          (fun hh => hc ⟨hh.1, hh.2.imp id fun e => by rw [hdc] at e; exact absurd (List.append_eq_nil_iff.1 e).1 hp⟩) (by rw [hdc]; exact tokT_app2 _ (c :: q) (.inr ⟨c, q, rfl, (sep_bk hcc).2⟩) _ _ _ _ ht0) (by
            rw [hdn]
            exact i3 c q F' m hcc hF' hm F (by rw [List.length_append, List.length_cons, hlen]; omega))
        rw [e]
        rfl
/-- A query that ends in a bracket: without it, with one more, with a comma ahead. -/
theorem cut_law {s0 : List UInt8} {p : PathT} (hp : parseT true (s0 ++ [93]) = .ok p) (hl : s0.length + 2 ≤ 4096) :
    (∀ q, parseT true s0 ≠ .ok q) ∧ parseT true (s0 ++ [93, 93]) = .error (3, ((s0.length + 1 : Nat) : Int)) ∧ (∀ q, parseT true (s0 ++ [44, 93]) ≠ .ok q) := by
  obtain ⟨r, hr, h2⟩ := parse_lex hp
  obtain ⟨-, -, hf⟩ := lexL_inv hr
  obtain ⟨r0, g, rfl, i2, i3⟩ := lexF_cut _ 0 s0 r (Nat.lt_succ_self _) hf
  rw [Nat.zero_add] at i3 h2
  have hlast : lexF 2 (s0.length + 1) [93] = .ok [⟨1, [93], 0, s0.length + 1, false⟩] :=
    lexF_mk (g := 0) (by simp) rfl (by simp) (tok_sep 93 [] (.inr rfl)) (lexF_nil _ _)
  have hlex : ∀ c : UInt8, c = 44 ∨ c = 93 → lexL (s0 ++ [c, 93]) = .ok (r0 ++ [⟨1, [c], 0, s0.length, g⟩, ⟨1, [93], 0, s0.length + 1, false⟩]) := fun c hc =>
    lexL_mk (by simp only [List.length_append, List.length_cons, List.length_nil]; omega) (by simp) (i3 c [93] 2 _ hc (by decide) hlast _ (Nat.lt_succ_self _))
  refine ⟨fun q hq => ?_, ?_, fun q hq => ?_⟩
  · obtain ⟨m, hm, h3⟩ := parse_lex hq
    obtain ⟨-, -, hmf⟩ := lexL_inv hm
    have e := i2 _ m (Nat.lt_succ_self _) hmf
    subst e
    have := parse2_more (E' := ((s0 ++ [93]).length : Nat)) (x := ⟨1, [93], 0, s0.length, g⟩) [] h3 (fun _ => rfl)
    have h4 : parse2 true ((s0 ++ [93]).length : Nat) (appS ⟨m, 0, 0⟩ [⟨1, [93], 0, s0.length, g⟩]) = .ok p := h2
    rw [this] at h4
    cases h4
  · unfold parseT
    rw [stOf_ok (hlex 93 (.inr rfl))]
    have := parse2_more (E' := ((s0 ++ [93, 93]).length : Nat)) (x := ⟨1, [93], 0, s0.length + 1, false⟩) [] h2 (fun _ => rfl)
    unfold appS at this
    simp only [List.append_assoc, List.cons_append, List.nil_append] at this
    exact this
  · unfold parseT at hq
    rw [stOf_ok (hlex 44 (.inl rfl))] at hq
    exact sh_parse2 true _ ⟨r0, _, _, rfl, rfl, rfl, rfl, rfl⟩ q hq

end Go.Proofs.YtmopeandckmgcaaDoor
