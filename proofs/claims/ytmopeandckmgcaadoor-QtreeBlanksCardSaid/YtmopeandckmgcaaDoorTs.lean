/- Queries with blanks more, plain: the tokens are the same, gaps and all (no word of a dump). -/
import Derived.Test.YtmopeandckmgcaaDoorM1
import Derived.Test.YtmopeandckmgcaaDoorTp
import Derived.Test.YtmopeandckmgcaaDoorTr
namespace Go.Proofs.YtmopeandckmgcaaDoor

theorem lexF_blankG (s b : List UInt8) (hb : ∀ c ∈ b, isBk c = true) : ∀ (f a last : Nat) (toks : List TokD), last ≤ a → a ≤ s.length → s.length - a < f → lexF f a (s.drop a) = .ok toks →
    ∃ X, blkL s b last toks = (s.drop last).take (a - last) ++ X ∧ Alike (s.drop a) X ∧ X.length ≤ s.length - a + b.length * toks.length ∧ ∀ (a' F : Nat), (a = 0 → a' = 0) → (a' = 0 → a = 0) → X.length < F → ∃ toks', lexF F a' X = .ok toks' ∧ AllG toks toks'
  | 0, _, _, _, _, _, h, _ => absurd h (by omega)
  | f + 1, a, last, toks, hla, has, hf, h => by
    by_cases hu : s.drop a = []
    · have hal : a = s.length := by have := congrArg List.length hu; rw [List.length_drop, List.length_nil] at this; omega
      rw [hu, lexF_nil] at h
      cases h
      refine ⟨[], ?_, ⟨[], [], [], by rw [hu]; rfl, rfl, .inl rfl, .inl rfl⟩, by simp, fun a' F _ _ _ => ⟨[], by rw [lexF_nil], trivial⟩⟩
      rw [blkL, List.append_nil, List.take_of_length_le (by rw [List.length_drop]; omega)]
    · obtain ⟨k, t, v, n, r, hc, hne, ht, hn, hl, hbn, hr, rfl⟩ := lexF_inv hu h
      obtain ⟨g, hg⟩ : ∃ g, bkN (s.drop a) = g := ⟨_, rfl⟩
      rw [hg] at hc hne ht hl hbn hr ⊢
      rw [List.length_drop] at hbn
      rw [List.drop_drop] at hne ht hl hr
      have hrd : s.drop (a + (g + n)) = s.drop (a + g + n) := by rw [Nat.add_assoc]
      rw [hrd] at hr
      rw [List.drop_drop] at hc
      by_cases hg0 : g = 0
      · subst hg0
        obtain ⟨X, hX, hA, hXl, hL⟩ := lexF_blankG s b hb f (a + 0 + n) last r (by omega) (by omega) (by omega) hr
        rw [Nat.add_zero] at hX hA hL ht hne hl hXl
        refine ⟨(s.drop a).take n ++ X, ?_, ?_, ?_, ?_⟩
        · rw [blkL, if_neg (by simp), hX, ← List.append_assoc]
          congr 1
          rw [show a + n - last = (a - last) + n by omega, List.take_add, List.drop_drop, show last + (a - last) = a by omega]
        · obtain ⟨p, q, q', h1, h2, h3, h4⟩ := hA
          refine ⟨(s.drop a).take n ++ p, q, q', ?_, by rw [h2, List.append_assoc], h3, h4⟩
          rw [List.append_assoc, ← h1, ← List.drop_drop, List.take_append_drop]
        · rw [List.length_append, List.length_take, List.length_cons, Nat.mul_succ]; omega
        · intro a' F h0 h0' hF
          rw [List.length_append, List.length_take, Nat.min_eq_left hl] at hF
          obtain ⟨F', rfl⟩ : ∃ F', F = F' + 1 := ⟨F - 1, by omega⟩
          obtain ⟨toks', hl1, hl2⟩ := hL (a' + 0 + n) F' (by omega) (by omega) (by omega)
          refine ⟨⟨k, t, v, a' + 0, decide (0 < 0)⟩ :: toks', ?_, ⟨⟨rfl, rfl, rfl, rfl⟩, hl2⟩⟩
          have htl : ((s.drop a).take n).length = n := by rw [List.length_take, Nat.min_eq_left hl]
          have htk := tokT_alike (v := X) (by rw [List.drop_drop]; exact hA) hn hl ht
          exact lexF_mk (by intro e; have := congrArg List.length (List.append_eq_nil_iff.1 e).1; rw [htl] at this; simp at this; omega) (bkN_ne hg hn hu) (by omega) (by simpa using htk)
            (by rw [Nat.zero_add, List.drop_left' htl]; exact hl1)
      · have ha0 : 0 < a := Nat.pos_of_ne_zero fun e => hc ⟨by omega, .inl e⟩
        obtain ⟨X, hX, hA, hXl, hL⟩ := lexF_blankG s b hb f (a + g + n) (a + g) r (by omega) (by omega) (by omega) hr
        have hbl := bkN_take (s.drop a)
        rw [hg] at hbl
        have htg : ((s.drop a).take g).length = g := by rw [List.length_take, List.length_drop]; omega
        have htl : ((s.drop (a + g)).take n).length = n := by rw [List.length_take, Nat.min_eq_left hl]
        rw [show a + g + n - (a + g) = n by omega] at hX
        have hall : ∀ c ∈ (s.drop a).take g ++ b, isBk c = true := by
          intro c hc'; rcases List.mem_append.1 hc' with h1 | h1
          · exact hbl c h1
          · exact hb c h1
        refine ⟨((s.drop a).take g ++ b) ++ ((s.drop (a + g)).take n ++ X), ?_, ?_, ?_, ?_⟩
        · have ht' : (s.drop last).take (a + g - last) = (s.drop last).take (a - last) ++ (s.drop a).take g := by
            rw [show a + g - last = (a - last) + g by omega, List.take_add, List.drop_drop, show last + (a - last) = a by omega]
          rw [blkL, if_pos (by simp; omega), hX, ht']
          simp only [List.append_assoc]
        · obtain ⟨g', rfl⟩ : ∃ g', g = g' + 1 := ⟨g - 1, by omega⟩
          obtain ⟨c, q, hcq⟩ : ∃ c q, s.drop a = c :: q := by
            cases hh : s.drop a with
            | nil => exact absurd hh hu
            | cons c q => exact ⟨c, q, rfl⟩
          have hck : isBk c = true := hbl c (by rw [hcq]; simp)
          exact ⟨[], s.drop a, _, rfl, rfl, .inr ⟨c, q, hcq, hck⟩, .inr ⟨c, _, by rw [hcq, List.take_succ_cons]; rfl, hck⟩⟩
        · rw [List.length_append, List.length_append, List.length_append, htg, htl, List.length_cons, Nat.mul_succ]; omega
        · intro a' F h0 h0' hF
          rw [List.length_append, List.length_append, List.length_append, htg, htl] at hF
          obtain ⟨F', rfl⟩ : ∃ F', F = F' + 1 := ⟨F - 1, by omega⟩
          have hl2 : ((s.drop a).take g ++ b).length = g + b.length := by rw [List.length_append, htg]
          obtain ⟨toks', hl1, hls⟩ := hL (a' + (g + b.length) + n) F' (by omega) (by omega) (by omega)
          refine ⟨⟨k, t, v, a' + (g + b.length), decide (0 < g + b.length)⟩ :: toks', ?_, ⟨⟨rfl, rfl, rfl, (by simp; omega)⟩, hls⟩⟩
          have htk := tokT_alike (v := X) (by rw [List.drop_drop]; exact hA) hn hl ht
          have hbk : bkN (((s.drop a).take g ++ b) ++ ((s.drop (a + g)).take n ++ X)) = g + b.length := by
            rw [bkN_rep _ _ hall, hl2]
            have hz : bkN (s.drop (a + g)) = 0 := by have := bkN_zero (u := s.drop a) (by rw [hg, List.drop_drop]; exact hne); rw [hg, List.drop_drop] at this; exact this
            rw [bkN_ne hz hn hne]
            rfl
          have hxn : (s.drop (a + g)).take n ++ X ≠ [] := by intro e; have := congrArg List.length (List.append_eq_nil_iff.1 e).1; rw [htl] at this; simp at this; omega
          exact lexF_mk (by intro e; exact hxn (List.append_eq_nil_iff.1 e).2) hbk (fun hh => hh.2.elim (fun e => by omega) (fun e => by rw [List.drop_left' hl2] at e; exact hxn e)) (by rw [List.drop_left' hl2]; exact htk)
            (by rw [← List.drop_drop, List.drop_left' hl2, List.drop_left' htl]; exact hl1)
theorem lex_blankG {s b : List UInt8} {l : List TokD} (hs : lexL s = .ok l) (hb : ∀ c ∈ b, isBk c = true) (hlen : s.length + b.length * l.length ≤ 4096) : ∃ m, lexL (blkL s b 0 l) = .ok m ∧ AllG l m := by
  obtain ⟨-, hl, hf⟩ := lexL_inv hs
  obtain ⟨X, hX, -, hXl, hL⟩ := lexF_blankG s b hb (s.length + 1) 0 0 l (Nat.le_refl _) (by omega) (by omega) hf
  rw [Nat.sub_self, List.take_zero, List.nil_append] at hX
  rw [hX]
  obtain ⟨m, h1, h2⟩ := hL 0 (X.length + 1) (fun _ => rfl) (fun _ => rfl) (by omega)
  refine ⟨m, lexL_mk (by omega) ?_ h1, h2⟩
  rintro rfl
  have := AllG.len h2
  exact hl (List.eq_nil_of_length_eq_zero this)

/-- With blanks more the query is the same, or the same fault elsewhere. -/
theorem blank_law {s b : List UInt8} {l : List TokD} (hs : lexL s = .ok l) (hb : ∀ c ∈ b, isBk c = true) (hlen : s.length + b.length * l.length ≤ 4096) :
    match parseT true s with | .ok p => parseT true (blkL s b 0 l) = .ok p | .error (e, _) => ∃ a, parseT true (blkL s b 0 l) = .error (e, a) := by
  obtain ⟨m, h1, h2⟩ := lex_blankG hs hb hlen
  unfold parseT
  rw [stOf_ok hs, stOf_ok h1]
  exact alike_parse2 true _ _ ⟨h2, rfl⟩
/-- A text that is no row of tokens. -/
theorem parse_lexerr {l : List UInt8} {x : Int} {a : Nat} (h : lexL l = .error (x, a)) (hx : x ≠ 0) : parseT true l = .error (x, (a : Nat)) := by
  unfold parseT stOf
  rw [h]
  have hf : (⟨[], x, ((a : Nat) : Int)⟩ : PSt).fe ≠ 0 := hx
  unfold parse2 parse1
  simp only
  rw [isS_bad _ hf, if_neg Bool.false_ne_true, formS_bad hf, pathF_bad hf]
  have ho : ovS (⟨[], x, ((a : Nat) : Int)⟩ : PSt) = true := by unfold ovS; simp
  simp only
  rw [ho, if_pos rfl, if_neg hx]

end Go.Proofs.YtmopeandckmgcaaDoor
