/- ref16: Lex, walked. -/
import Derived.Deep.LoopGhost
import Derived.Test.YtpcbcodmocmilaaDoorG23
import Derived.Test.YtpcbcodmocmilaaDoorG29
namespace Go.Proofs.YtpcbcodmocmilaaDoor
open Go.RowKit

theorem bk_at {s : ByteArray} {a q : Nat} (h1 : a ≤ q) (h2 : q < a + bkN (dr s a)) : ∃ h : q < s.size, isBk s[q] = true := by
  have hl := bkN_le (dr s a)
  rw [dr, List.length_drop, len_toList] at hl
  change bkN (dr s a) ≤ _ at hl
  have hq : q < s.size := by omega
  refine ⟨hq, ?_⟩
  have := bkN_take (dr s a) s[q] (by
    rw [List.mem_take_iff_getElem]
    refine ⟨q - a, ?_, ?_⟩
    · exact Nat.lt_min.2 ⟨by omega, by unfold dr; rw [List.length_drop, len_toList]; omega⟩
    · show (s.data.toList.drop a)[q - a]'(by rw [List.length_drop, len_toList]; omega) = s[q]
      rw [List.getElem_drop]
      have : a + (q - a) = q := by omega
      simp only [this]; rfl)
  exact this
theorem bk_end {s : ByteArray} {a : Nat} (h : a + bkN (dr s a) < s.size) : isBk s[a + bkN (dr s a)] = false := by
  have h0 := bkN_zero (u := dr s a) (by rw [dr_dr]; exact dr_ne h)
  rw [dr_dr, show dr s (a + bkN (dr s a)) = s[a + bkN (dr s a)] :: dr s (a + bkN (dr s a) + 1) from drop_cons s _ h] at h0
  cases hb : isBk s[a + bkN (dr s a)] with
  | false => rfl
  | true => unfold bkN at h0; rw [if_pos hb] at h0; omega

set_option maxRecDepth 100000 in
set_option maxHeartbeats 4000000 in
theorem rlex_any (s : ByteArray) (w : World) (hs : s.size ≤ 1000000) :
    Calls Tryd.prog 12 #[.string s] w (LexP s.data.toList w) := by
  by_cases hlong : 4096 < s.size
  · exact rlex_long s w hs hlong
  have HL := Lib.hid (show ¬ 4096 < s.data.toList.length by rw [len_toList]; exact hlong)
  have HX0 := Lib.hid (LX.start w)
  obtain ⟨i0, hi, hz0, hz1, hz2'⟩ := info_parts info_tok
  go_enter Tryd.func12, Tryd.ntmps12
  generalize hQ : bodyPost Tryd.prog Tryd.f12 (LexP s.data.toList w) = Q
  have HQ := Lib.hid hQ; clear hQ
  go_wp2
  go_loopg [4, 5] s.size (fun k v x wr => ∃ (a f : Nat) (toks : List TokD), k = s.size - a ∧ a ≤ s.size ∧ s.size < a + f ∧ toks.length ≤ a ∧ x = .int .i64 a ∧ Hid (lexF (s.data.toList.length + 1) 0 s.data.toList = pref toks (lexF f a (dr s a))) ∧ Hid (LX w wr v toks))
  case atStart => exact ⟨0, s.size + 1, [], by omega, by omega, by omega, by simp, rfl, Lib.hid (by rw [pref_nil, len_toList]; rfl), HX0⟩
  case round =>
    clear HX0
    obtain ⟨a, f, toks, hgk, ha, hf, htl, rfl, HF, HX⟩ := hrel
    have HGK := Lib.hid hgk; clear hgk
    by_cases hlt : a < s.size
    · obtain ⟨g, hg⟩ : ∃ g, bkN (dr s a) = g := ⟨_, rfl⟩
      have hgl : a + g ≤ s.size := by have := bkN_le (dr s a); rw [hg, dr, List.length_drop, len_toList] at this; omega
      have HBA := Lib.hid (fun q (h1 : a ≤ q) (h2 : q < a + g) => bk_at (s := s) h1 (by rw [hg]; exact h2))
      have HBE := Lib.hid (show ∀ h : a + g < s.size, isBk s[a + g] = false by subst hg; exact fun h => bk_end h)
      obtain ⟨p, hp⟩ : ∃ p, a + g = p := ⟨_, rfl⟩
      have HP := Lib.hid hp
      have HG := Lib.hid hg
      rw [hp] at hgl HBA HBE
      have hap : a ≤ p := by omega
      obtain ⟨f', rfl⟩ : ∃ f', f = f' + 1 := ⟨f - 1, by omega⟩
      clear hg
      go_wp2
      go_loop [5] (fun x => ∃ q : Nat, a ≤ q ∧ q ≤ p ∧ x = .int .i64 q) (fun x => p - (intOf x).toNat)
      case atStart => exact ⟨a, by omega, hap, rfl⟩
      case round =>
        obtain ⟨q, hq1, hq2, rfl⟩ := hrel
        by_cases hqp : q < p
        · obtain ⟨hqs, hqb⟩ := HBA.out q hq1 hqp
          have hqi := s[q].toNat_lt
          have HQB := Lib.hid hqb
          clear hqb
          go_wp2_with (go_at_call 22; refine (rblank_at _ _ _ HQB).mono ?_; rintro e w' ⟨rfl, rfl⟩)
          go_round
          case rel => exact ⟨q + 1, by omega, by omega, by go_num⟩
          case measure => simp [intOf] <;> omega
        · obtain rfl : q = p := by omega
          have hqe : q < s.size → ∃ h : q < s.size, isBk s[q] = false := fun h => ⟨h, HBE.out h⟩
          have HQE := Lib.hid hqe
          clear hqe hqp hq1 hq2
          by_cases hbad : 0 < g ∧ (a = 0 ∨ s.size ≤ a + g)
          · have HE := Lib.hid (lexL_err HL.out (HF.out.trans (lex_gap (f := f') (toks := toks) hlt (by rw [HG.out]; exact hbad.1) (by rw [HG.out]; exact hbad.2))))
            obtain ⟨hg0, hb2⟩ := hbad
            have haq : (a : Int) < (q : Int) := by omega
            obtain ⟨x1, ⟨x2, x3⟩, x4, x5⟩ := HX.out.1.two
            by_cases ha0 : a = 0
            · have ha1 : ((a : Int) == 0) = true := by simp [ha0]
              clear ha0 hb2 hp
              by_cases hqs : q < s.size
              · obtain ⟨_, hqb⟩ := HQE.out hqs
                have hqi := s[q].toNat_lt
                have HQB := Lib.hid hqb
                clear hqb
                go_wp2_with (go_at_call 22; refine (rblank_at _ _ _ HQB).mono ?_; rintro e w' ⟨rfl, rfl⟩)
                rw [← HQ.out]
                exact bodyPost_ret (v := .tuple #[.slice none 0 0, .agg #[.int .i64 3, .int .i64 a]]) (by simp [results, Tryd.results12, go_sem, x2, x3]) rfl (LexP.no HE.out (HX.out.stored _ _))
              · go_wp2
                rw [← HQ.out]
                exact bodyPost_ret (v := .tuple #[.slice none 0 0, .agg #[.int .i64 3, .int .i64 a]]) (by simp [results, Tryd.results12, go_sem, x2, x3]) rfl (LexP.no HE.out (HX.out.stored _ _))
            · have ha1 : ((a : Int) == 0) = false := by simp [ha0]
              have hqs : ¬ q < s.size := by omega
              have hqs' : ((q : Int) == (s.size : Int)) = true := by rw [beq_iff_eq]; omega
              clear ha0 hb2 hp
              go_wp2
              rw [← HQ.out]
              exact bodyPost_ret (v := .tuple #[.slice none 0 0, .agg #[.int .i64 3, .int .i64 a]]) (by simp [results, Tryd.results12, go_sem, x2, x3]) rfl (LexP.no HE.out (HX.out.stored _ _))
          · have hqs : q < s.size := by omega
            obtain ⟨_, hqb⟩ := HQE.out hqs
            have hqi := s[q].toNat_lt
            have HQB := Lib.hid hqb
            have hqs' : ((q : Int) == (s.size : Int)) = false := by rw [beq_eq_false_iff_ne]; omega
            have hon := fun w => rtok_any s q w hs hqs
            unfold ROne ROneE at hon
            have HBAD := Lib.hid hbad
            have hgg : (¬ (a : Int) < (q : Int) ∧ decide (0 < g) = false) ∨ ((a : Int) < (q : Int) ∧ decide (0 < g) = true ∧ ((a : Int) == 0) = false) := by
              rcases Nat.eq_zero_or_pos g with h | h
              · exact .inl ⟨by omega, by simp [h]⟩
              · exact .inr ⟨by omega, by simpa using h, by rw [beq_eq_false_iff_ne]; omega⟩
            clear hbad hqb
            cases htk : tokT (dr s q) with
            | error e =>
              have HE := Lib.hid (show lexL s.data.toList = .error (e, q) by
                have := lexL_err HL.out (HF.out.trans (lex_err (f := f') (toks := toks) hlt HG.out HBAD.out (by rw [HP.out]; exact htk)))
                rw [HP.out] at this; exact this)
              rw [htk] at hon
              obtain ⟨he0, he1⟩ := tokT_err htk
              clear htk hp
              rcases hgg with ⟨hg1, -⟩ | ⟨hg1, -, hg2⟩
              all_goals
                go_wp2_with (first | (go_at_call 22; refine (rblank_at _ _ _ HQB).mono ?_; rintro e w' ⟨rfl, rfl⟩) | (go_at_call 23; refine (hon _).mono ?_; rintro e w2 ⟨rfl, hb⟩; have HX2 := Lib.hid (HX.out.bel hb); obtain ⟨x1, ⟨x2, x3⟩, x4, x5⟩ := HX2.out.1.two; clear hb; unfold tokWW))
                rw [← HQ.out]
                exact bodyPost_ret (v := .tuple #[.slice none 0 0, .agg #[.int .i64 e, .int .i64 (q : Nat)]]) (by simp [results, Tryd.results12, go_sem, x1, x2, x3]) rfl (LexP.no HE.out ((HX2.out.stored _ _).alloc (by simp; omega) _))
            | ok kt =>
              obtain ⟨k, t, v, n⟩ := kt
              have HF := Lib.hid (HF.out.trans (lex_go (f := f') (toks := toks) hlt HG.out HBAD.out (by rw [HP.out]; exact htk)))
              rw [HP.out] at HF
              obtain ⟨hn0, hn1, _⟩ := tokT_ok _ _ _ _ _ htk
              rw [dr, List.length_drop, len_toList] at hn1
              rw [htk] at hon
              have hqn : q + n ≤ s.size := by omega
              clear htk hn1 hp
              rcases hgg with ⟨hg1, hgd⟩ | ⟨hg1, hgd, hg2⟩
              · have HGD := Lib.hid hgd
                clear hgd
                go_wp2_with (first
                  | (go_at_call 22; refine (rblank_at _ _ _ HQB).mono ?_; rintro e w' ⟨rfl, rfl⟩)
                  | (go_at_call 23; refine (hon _).mono ?_; rintro e w2 ⟨rfl, hb⟩; have HX2 := Lib.hid (HX.out.bel hb); have hz2 := HX2.out.2.2.2; clear hb; unfold tokWW)
                  | (at_builtin; refine wpList_append_any _ rfl (.tmp 62) (.tmp 64) 48 rfl (w.heap.size + 1) 76 i0 _ 5 48 Tryd.underlying48 hi hz0 hz1 hz2' rfl (by decide) _ _ _ rfl (HX2.out.bel bel_lit2).2.1 (w2.heap.size + 1 + 1) (some ⟨w2.heap.size + 1, 0, none⟩) 1 1 [.int .i64 k, .string (bs t), .int .i64 v, .int .i64 (q : Nat), .bool false] rfl (by have := reads_new (w2.alloc (.cells #[.int .i64 k, .string (bs t), .int .i64 v, .int .i64 (q : Nat), .bool false] 76)) 76 5 1 [.int .i64 k, .string (bs t), .int .i64 v, .int .i64 (q : Nat), .bool false] rfl; simpa using this) (by simp [Value.oneCell']) (by unfold maxLen; omega) (by omega) (by simp; omega) ?_; intro v' w3 hown4 hg4 _; have HX3 : Hid (LX w w3 v' (toks ++ [⟨k, t, v, q, false⟩])) := Lib.hid (LX.grown (HX2.out.bel bel_lit2) (by rw [show tokC ⟨k, t, v, q, false⟩ = [.int .i64 k, .string (bs t), .int .i64 v, .int .i64 (q : Nat), .bool false] from rfl]; exact hown4) hg4); clear hown4 hg4))
                have HF2 := Lib.hid (show lexF (s.data.toList.length + 1) 0 s.data.toList = pref (toks ++ [⟨k, t, v, q, false⟩]) (lexF f' (q + n) (dr s (q + n))) by rw [HF.out, HGD.out])
                go_roundg (s.size - (q + n))
                case measure => have := HGK.out; have := HP.out; simp; omega
                case rel => exact ⟨q + n, f', _, rfl, by omega, by omega, by simp; omega, by go_num, HF2, HX3⟩
              · have HGD := Lib.hid hgd
                clear hgd
                go_wp2_with (first
                  | (go_at_call 22; refine (rblank_at _ _ _ HQB).mono ?_; rintro e w' ⟨rfl, rfl⟩)
                  | (go_at_call 23; refine (hon _).mono ?_; rintro e w2 ⟨rfl, hb⟩; have HX2 := Lib.hid (HX.out.bel hb); have hz2 := HX2.out.2.2.2; clear hb; unfold tokWW)
                  | (at_builtin; refine wpList_append_any _ rfl (.tmp 62) (.tmp 64) 48 rfl (w.heap.size + 1) 76 i0 _ 5 48 Tryd.underlying48 hi hz0 hz1 hz2' rfl (by decide) _ _ _ rfl (HX2.out.bel bel_lit2).2.1 (w2.heap.size + 1 + 1) (some ⟨w2.heap.size + 1, 0, none⟩) 1 1 [.int .i64 k, .string (bs t), .int .i64 v, .int .i64 (q : Nat), .bool true] rfl (by have := reads_new (w2.alloc (.cells #[.int .i64 k, .string (bs t), .int .i64 v, .int .i64 (q : Nat), .bool true] 76)) 76 5 1 [.int .i64 k, .string (bs t), .int .i64 v, .int .i64 (q : Nat), .bool true] rfl; simpa using this) (by simp [Value.oneCell']) (by unfold maxLen; omega) (by omega) (by simp; omega) ?_; intro v' w3 hown4 hg4 _; have HX3 : Hid (LX w w3 v' (toks ++ [⟨k, t, v, q, true⟩])) := Lib.hid (LX.grown (HX2.out.bel bel_lit2) (by rw [show tokC ⟨k, t, v, q, true⟩ = [.int .i64 k, .string (bs t), .int .i64 v, .int .i64 (q : Nat), .bool true] from rfl]; exact hown4) hg4); clear hown4 hg4))
                have HF2 := Lib.hid (show lexF (s.data.toList.length + 1) 0 s.data.toList = pref (toks ++ [⟨k, t, v, q, true⟩]) (lexF f' (q + n) (dr s (q + n))) by rw [HF.out, HGD.out])
                go_roundg (s.size - (q + n))
                case measure => have := HGK.out; have := HP.out; simp; omega
                case rel => exact ⟨q + n, f', _, rfl, by omega, by omega, by simp; omega, by go_num, HF2, HX3⟩
    · have HF := Lib.hid (HF.out.trans (lex_stop (f := f) (toks := toks) (show s.size ≤ a by omega)))
      obtain ⟨A, cap, hv, hcap, _⟩ := own_flat tokC 5 tokC_len wr _ _ _ _ toks HX.out.2.1 rfl
      subst hv
      obtain ⟨x1, ⟨x2, x3⟩, x4, x5⟩ := HX.out.1.two
      rcases Nat.eq_zero_or_pos toks.length with h0 | h0
      · have HE := Lib.hid (lexL_nil HL.out (by rw [HF.out, List.eq_nil_of_length_eq_zero h0]))
        have h1 : ((toks.length : Int) == 0) = true := by simp [h0]
        clear h0
        go_wp2
        rw [← HQ.out]
        exact bodyPost_ret (v := .tuple #[.slice none 0 0, .agg #[.int .i64 3, .int .i64 0]]) (by simp [results, Tryd.results12, go_sem, x2, x3]) rfl (LexP.no HE.out (HX.out.stored _ _))
      · have HE := Lib.hid (lexL_ok HL.out HF.out (by intro e; rw [e] at h0; simp at h0))
        have h1 : ((toks.length : Int) == 0) = false := by rw [beq_eq_false_iff_ne]; omega
        go_wp2
        rw [← HQ.out]
        exact bodyPost_ret (v := .tuple #[.slice A toks.length cap, .agg #[.int .i64 0, .int .i64 0]]) (by simp [results, Tryd.results12, go_sem, x2, x3]) rfl (LexP.yes HE.out (HX.out.store _ _) (HX.out.stored _ _))

end Go.Proofs.YtpcbcodmocmilaaDoor
