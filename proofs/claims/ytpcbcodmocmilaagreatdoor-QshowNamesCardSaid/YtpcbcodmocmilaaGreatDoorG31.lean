/- G31: Wp, Wq, Ra joined. -/
import Derived.Test.YtpcbcodmocmilaaGreatDoorWo
import Derived.Test.YtpcbcodmocmilaaGreatDoorQz
namespace Go.Proofs.YtpcbcodmocmilaaGreatDoor
open Go.RowKit
/- qlex: Lex: memory and law, step by step. -/
section
open Go.RowKit

theorem tl_at (s r : ByteArray) (a g : Nat) (w : World) (_ : a ≤ s.size) (hg : bkN (dr s a) = g) (hr : r = s.extract (a + g) s.size) :
    Calls Tryz.prog 49 #[.string (s.extract a s.size), .string ⟨#[32, 9, 10, 13]⟩] w fun e w' => e = .returned (.string r) ∧ Below w.heap.size w w' := by
  have := tl_any (s.extract a s.size) w
  rw [ext_drop, show s.data.toList.drop a = dr s a from rfl, hg] at this
  refine this.mono ?_
  rintro e w' ⟨rfl, hb⟩
  refine ⟨ret_str ?_, hb⟩
  rw [hr]
  exact (bs_of (by rw [ext_drop, ext_drop, List.drop_drop])).trans (bs_of (ext_drop s (a + g))).symm
end
/- qlex: Lex, walked. -/
section
open Go.RowKit

set_option maxRecDepth 100000 in
set_option maxHeartbeats 4000000 in
theorem lex_any (s : ByteArray) (w : World) (hs : s.size ≤ 1000000) :
    Calls Tryz.prog 29 #[.string s] w (LexP s.data.toList w) := by
  by_cases hlong : 4096 < s.size
  · have HE := Lib.hid (lexL_long (l := s.data.toList) (by rw [len_toList]; exact hlong))
    go_enter Tryz.func29, Tryz.ntmps29
    generalize hQ : bodyPost Tryz.prog Tryz.f29 (LexP s.data.toList w) = Q
    have HQ := Lib.hid hQ; clear hQ
    go_wp2
    rw [← HQ.out]
    exact bodyPost_ret (v := .tuple #[.slice none 0 0, .agg #[.int .i64 4, .int .i64 0]]) (by simp [results, Tryz.results29, go_sem]) rfl (LexP.no HE.out bel_lit)
  · have HL := Lib.hid (show ¬ 4096 < s.data.toList.length by rw [len_toList]; exact hlong)
    have HX0 := Lib.hid (LX.start w)
    obtain ⟨i0, hi, hz0, hz1, hz2'⟩ := info_parts info_tok
    go_enter Tryz.func29, Tryz.ntmps29
    generalize hQ : bodyPost Tryz.prog Tryz.f29 (LexP s.data.toList w) = Q
    have HQ := Lib.hid hQ; clear hQ
    go_wp2
    go_loopg [4, 5] s.size (fun k v x wr => ∃ (a f : Nat) (toks : List TokD), k = s.size - a ∧ a ≤ s.size ∧ s.size < a + f ∧ toks.length ≤ a ∧ x = .int .i64 a ∧ Hid (lexF (s.data.toList.length + 1) 0 s.data.toList = pref toks (lexF f a (dr s a))) ∧ Hid (LX w wr v toks))
    case atStart => exact ⟨0, s.size + 1, [], by omega, by omega, by omega, by simp, rfl, Lib.hid (by rw [pref_nil, len_toList]; rfl), HX0⟩
    case round =>
      clear HX0
      obtain ⟨a, f, toks, hgk, ha, hf, htl, rfl, HF, HX⟩ := hrel
      have HGK := Lib.hid hgk; clear hgk
      by_cases hlt : a < s.size
      · obtain ⟨g, hg⟩ : ∃ g, bkN (dr s a) = g := ⟨_, rfl⟩
        have hgl : a + g ≤ s.size := by have := bkN_le (dr s a); rw [hg, dr, List.length_drop, len_toList] at this; omega
        obtain ⟨r, hr⟩ : ∃ r, r = s.extract (a + g) s.size := ⟨_, rfl⟩
        have hrz : (s.size : Int) - (r.size : Int) - (a : Int) = (g : Int) := by rw [hr]; simp; omega
        have HRZ := Lib.hid (show r.size = s.size - (a + g) by rw [hr]; simp)
        have HTL := Lib.hid (fun w => tl_at s r a g w ha hg hr)
        have HRL := Lib.hid (show r.data.toList = dr s (a + g) by rw [hr, ext_drop]; rfl)
        have hrb : r.size ≤ s.size := by have := HRZ.out; omega
        obtain ⟨f', rfl⟩ : ∃ f', f = f' + 1 := ⟨f - 1, by omega⟩
        have HG := Lib.hid hg
        clear hr hg
        by_cases hbad : 0 < g ∧ (a = 0 ∨ s.size ≤ a + g)
        · have HE := Lib.hid (lexL_err HL.out (HF.out.trans (lex_gap (f := f') (toks := toks) hlt (by rw [HG.out]; exact hbad.1) (by rw [HG.out]; exact hbad.2))))
          obtain ⟨hg0, hb2⟩ := hbad
          have hg0' : (0 : Int) < (g : Int) := by omega
          by_cases ha0 : a = 0
          · have ha1 : ((a : Int) == 0) = true := by simp [ha0]
            clear ha0 hb2
            go_wp2_with (go_at_call 49; refine (HTL.out _).mono ?_; rintro e w1 ⟨rfl, hb⟩; have HX1 := Lib.hid (HX.out.bel (Bel.of hb)); obtain ⟨x1, ⟨x2, x3⟩, x4, x5⟩ := HX1.out.1.two; clear hb)
            rw [← HQ.out]
            exact bodyPost_ret (v := .tuple #[.slice none 0 0, .agg #[.int .i64 3, .int .i64 a]]) (by simp [results, Tryz.results29, go_sem, x2, x3]) rfl (LexP.no HE.out (HX1.out.stored _ _))
          · have ha1 : ((a : Int) == 0) = false := by simp [ha0]
            have hre := te_t (t := r) (by have := HRZ.out; omega)
            clear ha0 hb2
            go_wp2_with (go_at_call 49; refine (HTL.out _).mono ?_; rintro e w1 ⟨rfl, hb⟩; have HX1 := Lib.hid (HX.out.bel (Bel.of hb)); obtain ⟨x1, ⟨x2, x3⟩, x4, x5⟩ := HX1.out.1.two; clear hb)
            rw [← HQ.out]
            exact bodyPost_ret (v := .tuple #[.slice none 0 0, .agg #[.int .i64 3, .int .i64 a]]) (by simp [results, Tryz.results29, go_sem, x2, x3]) rfl (LexP.no HE.out (HX1.out.stored _ _))
        · have hr0 : 0 < r.size := by have := HRZ.out; omega
          have hre := te_f hr0
          have hon := fun w => one_any r w (by omega) hr0
          rw [HRL.out] at hon
          unfold OneP OneE at hon
          have HBAD := Lib.hid hbad
          have hgg : (g = 0 ∧ (decide ((0 : Int) < (g : Int))) = false ∧ decide (0 < g) = false) ∨ (0 < g ∧ (decide ((0 : Int) < (g : Int))) = true ∧ decide (0 < g) = true ∧ ((a : Int) == 0) = false) := by
            rcases Nat.eq_zero_or_pos g with h | h
            · exact .inl ⟨h, by simp [h], by simp [h]⟩
            · exact .inr ⟨h, by simpa using h, by simpa using h, by simp; omega⟩
          clear hbad
          cases htk : tokT (dr s (a + g)) with
          | error e =>
            have HE := Lib.hid (lexL_err HL.out (HF.out.trans (lex_err (f := f') (toks := toks) hlt HG.out HBAD.out htk)))
            rw [htk] at hon
            obtain ⟨he0, he1⟩ := tokT_err htk
            clear htk
            rcases hgg with ⟨-, hg1, hg1'⟩ | ⟨-, hg1, hg1', hg2⟩
            all_goals
              go_wp2_with (first | (go_at_call 49; refine (HTL.out _).mono ?_; rintro e w1 ⟨rfl, hb⟩; have HX1 := Lib.hid (HX.out.bel (Bel.of hb)); clear hb) | (go_at_call 50; refine (hon _).mono ?_; rintro e w2 ⟨⟨k, st, nv, m, rfl⟩, hb⟩; have HX2 := Lib.hid (HX1.out.bel hb); obtain ⟨x1, ⟨x2, x3⟩, x4, x5⟩ := HX2.out.1.two; clear hb; unfold tokVV))
              rw [← HQ.out]
              exact bodyPost_ret (v := .tuple #[.slice none 0 0, .agg #[.int .i64 e, .int .i64 ((a : Int) + (g : Int))]]) (by simp [results, Tryz.results29, go_sem, x1, x2, x3]) rfl (by rw [← Int.natCast_add]; exact LexP.no HE.out ((HX2.out.stored _ _).alloc (by simp; omega) _))
          | ok kt =>
            obtain ⟨k, t, v, n⟩ := kt
            have HF := Lib.hid (HF.out.trans (lex_go (f := f') (toks := toks) hlt HG.out HBAD.out htk))
            obtain ⟨hn0, hn1, _⟩ := tokT_ok _ _ _ _ _ htk
            rw [dr, List.length_drop, len_toList] at hn1
            rw [htk] at hon
            clear htk
            rcases hgg with ⟨hg0, hg1, hg1'⟩ | ⟨hg0, hg1, hg1', hg2⟩
            · have HGD := Lib.hid (show decide (0 < g) = false by simp; omega)
              clear hg0
              go_wp2_with (first
                | (go_at_call 49; refine (HTL.out _).mono ?_; rintro e w1 ⟨rfl, hb⟩; have HX1 := Lib.hid (HX.out.bel (Bel.of hb)); clear hb)
                | (go_at_call 50; refine (hon _).mono ?_; rintro e w2 ⟨rfl, hb⟩; have HX2 := Lib.hid (HX1.out.bel hb); have hz2 := HX2.out.2.2.2; clear hb; unfold tokVV)
                | (at_builtin; refine wpList_append_any _ rfl (.tmp 61) (.tmp 63) 60 rfl (w.heap.size + 1) 92 i0 _ 5 48 Tryz.underlying60 hi hz0 hz1 hz2' rfl (by decide) _ _ _ rfl (HX2.out.bel bel_lit2).2.1 (w2.heap.size + 1 + 1) (some ⟨w2.heap.size + 1, 0, none⟩) 1 1 [.int .i64 k, .string (bs t), .int .i64 v, .int .i64 ((a : Int) + (g : Int)), .bool false] rfl (by have := reads_new (w2.alloc (.cells #[.int .i64 k, .string (bs t), .int .i64 v, .int .i64 ((a : Int) + (g : Int)), .bool false] 92)) 92 5 1 [.int .i64 k, .string (bs t), .int .i64 v, .int .i64 ((a : Int) + (g : Int)), .bool false] rfl; simpa using this) (by simp [Value.oneCell']) (by unfold maxLen; omega) (by omega) (by simp; omega) ?_; intro v' w3 hown4 hg4 _; have HX3 : Hid (LX w w3 v' (toks ++ [⟨k, t, v, a + g, false⟩])) := Lib.hid (LX.grown (HX2.out.bel bel_lit2) (by rw [show tokC ⟨k, t, v, a + g, false⟩ = [.int .i64 k, .string (bs t), .int .i64 v, .int .i64 ((a : Int) + (g : Int)), .bool false] by unfold tokC; rw [Int.natCast_add]]; exact hown4) hg4); clear hown4 hg4))
              have HF2 := Lib.hid (show lexF (s.data.toList.length + 1) 0 s.data.toList = pref (toks ++ [⟨k, t, v, a + g, false⟩]) (lexF f' (a + g + n) (dr s (a + g + n))) by rw [HF.out, HGD.out])
              go_roundg (s.size - (a + g + n))
              case measure => have := HGK.out; simp; omega
              case rel => exact ⟨a + g + n, f', _, rfl, by omega, by omega, by simp; omega, by go_num, HF2, HX3⟩
            · have HGD := Lib.hid (show decide (0 < g) = true by simp; omega)
              go_wp2_with (first
                | (go_at_call 49; refine (HTL.out _).mono ?_; rintro e w1 ⟨rfl, hb⟩; have HX1 := Lib.hid (HX.out.bel (Bel.of hb)); clear hb)
                | (go_at_call 50; refine (hon _).mono ?_; rintro e w2 ⟨rfl, hb⟩; have HX2 := Lib.hid (HX1.out.bel hb); have hz2 := HX2.out.2.2.2; clear hb; unfold tokVV)
                | (at_builtin; refine wpList_append_any _ rfl (.tmp 61) (.tmp 63) 60 rfl (w.heap.size + 1) 92 i0 _ 5 48 Tryz.underlying60 hi hz0 hz1 hz2' rfl (by decide) _ _ _ rfl (HX2.out.bel bel_lit2).2.1 (w2.heap.size + 1 + 1) (some ⟨w2.heap.size + 1, 0, none⟩) 1 1 [.int .i64 k, .string (bs t), .int .i64 v, .int .i64 ((a : Int) + (g : Int)), .bool true] rfl (by have := reads_new (w2.alloc (.cells #[.int .i64 k, .string (bs t), .int .i64 v, .int .i64 ((a : Int) + (g : Int)), .bool true] 92)) 92 5 1 [.int .i64 k, .string (bs t), .int .i64 v, .int .i64 ((a : Int) + (g : Int)), .bool true] rfl; simpa using this) (by simp [Value.oneCell']) (by unfold maxLen; omega) (by omega) (by simp; omega) ?_; intro v' w3 hown4 hg4 _; have HX3 : Hid (LX w w3 v' (toks ++ [⟨k, t, v, a + g, true⟩])) := Lib.hid (LX.grown (HX2.out.bel bel_lit2) (by rw [show tokC ⟨k, t, v, a + g, true⟩ = [.int .i64 k, .string (bs t), .int .i64 v, .int .i64 ((a : Int) + (g : Int)), .bool true] by unfold tokC; rw [Int.natCast_add]]; exact hown4) hg4); clear hown4 hg4))
              have HF2 := Lib.hid (show lexF (s.data.toList.length + 1) 0 s.data.toList = pref (toks ++ [⟨k, t, v, a + g, true⟩]) (lexF f' (a + g + n) (dr s (a + g + n))) by rw [HF.out, HGD.out])
              go_roundg (s.size - (a + g + n))
              case measure => have := HGK.out; simp; omega
              case rel => exact ⟨a + g + n, f', _, rfl, by omega, by omega, by simp; omega, by go_num, HF2, HX3⟩
      · have HF := Lib.hid (HF.out.trans (lex_stop (f := f) (toks := toks) (show s.size ≤ a by omega)))
        obtain ⟨A, cap, hv, hcap, _⟩ := own_flat tokC 5 tokC_len wr _ _ _ _ toks HX.out.2.1 rfl
        subst hv
        obtain ⟨x1, ⟨x2, x3⟩, x4, x5⟩ := HX.out.1.two
        rcases Nat.eq_zero_or_pos toks.length with h0 | h0
        · have HE := Lib.hid (lexL_nil HL.out (by rw [HF.out, List.eq_nil_of_length_eq_zero h0]))
          have h1 : ((toks.length : Int) == 0) = true := by simp [h0]
          clear h0
          go_wp2
          rw [← HQ.out]
          exact bodyPost_ret (v := .tuple #[.slice none 0 0, .agg #[.int .i64 3, .int .i64 0]]) (by simp [results, Tryz.results29, go_sem, x2, x3]) rfl (LexP.no HE.out (HX.out.stored _ _))
        · have HE := Lib.hid (lexL_ok HL.out HF.out (by intro e; rw [e] at h0; simp at h0))
          have h1 : ((toks.length : Int) == 0) = false := by rw [beq_eq_false_iff_ne]; omega
          go_wp2
          rw [← HQ.out]
          exact bodyPost_ret (v := .tuple #[.slice A toks.length cap, .agg #[.int .i64 0, .int .i64 0]]) (by simp [results, Tryz.results29, go_sem, x2, x3]) rfl (LexP.yes HE.out (HX.out.store _ _) (HX.out.stored _ _))

end
/- qtree: Parse, all of it. -/
section
open Go.RowKit

/-- Lex, for the reader: what is left to read, and the fault. -/
theorem lexq_any (s : ByteArray) (w : World) (hs : s.size ≤ 1000000) :
    Calls Tryz.prog 29 #[.string s] w (LexQ s.data.toList w) := by
  refine (lex_any s w hs).mono ?_
  intro e w' h
  unfold LexP at h
  unfold LexQ stOf
  have ho := lex_order s.data.toList
  cases hl : lexL s.data.toList with
  | error x =>
    obtain ⟨x, a⟩ := x
    rw [hl] at h
    exact ⟨none, 0, h.1, ⟨Nat.le_refl _, by omega, Nat.zero_le _⟩, .inl rfl, h.2⟩
  | ok toks =>
    rw [hl] at h ho
    obtain ⟨⟨v, rfl, hv⟩, hb⟩ := h
    have hlen : toks.length ≤ 1000000 := by
      have h1 := ordL_len toks 0 ho.1
      rw [len_toList] at h1
      omega
    obtain ⟨A, cap, e1, hc, ht⟩ := tok_own hv rfl
    have hcap : cap ≤ 9223372036854775807 := by
      rcases hv.2 with ⟨e2, _⟩ | ⟨gg, cap', cur, e2, _, _, _, hm, _⟩
      · rw [e1] at e2
        have := (Value.slice.inj e2).2.2
        omega
      · rw [e1] at e2
        have := (Value.slice.inj e2).2.2
        unfold maxLen at hm
        omega
    subst e1
    exact ⟨A, cap, rfl, ⟨hc, hcap, hlen⟩, ht, hb⟩
theorem parse_any (s : ByteArray) (w : World) (hs : s.size ≤ 1000000) : Calls Tryz.prog 17 #[.string s] w (ParseP s.data.toList w) :=
  parse_of s w fun w => lexq_any s w hs

end

end Go.Proofs.YtpcbcodmocmilaaGreatDoor
