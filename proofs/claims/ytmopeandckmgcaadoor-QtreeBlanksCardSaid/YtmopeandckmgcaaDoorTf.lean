/- QtreeBlanks, walked (printed by gen_blanks.py). -/
import Derived.Deep.LoopGhost
import Derived.Test.YtmopeandckmgcaaDoorTe
import Derived.Test.YtmopeandckmgcaaDoorTs
import Derived.Test.YtmopeandckmgcaaDoorM4
namespace Go.Proofs.YtmopeandckmgcaaDoor
open Go.RowKit

theorem rlex_no {s : ByteArray} {x : Int} {a : Nat} (w : World) (hs : s.size ≤ 1000000) (h : lexL s.data.toList = .error (x, a)) :
    Calls Tryd.prog 8 #[.string s] w fun e w' => e = .returned (.tuple #[.slice none 0 0, .agg #[.int .i64 x, .int .i64 ((a : Nat) : Int)]]) ∧ Bel w.heap.size w w' := by
  have := rlex_any s w hs
  unfold LexP at this
  rw [h] at this; exact this
theorem rlex_yes {s : ByteArray} {toks : List TokD} (w : World) (hs : s.size ≤ 1000000) (h : lexL s.data.toList = .ok toks) :
    Calls Tryd.prog 8 #[.string s] w fun e w' => ∃ A cap, e = .returned (.tuple #[.slice A toks.length cap, .agg #[.int .i64 0, .int .i64 0]]) ∧ TkR w' A toks ∧ Bel w.heap.size w w' := by
  have := rlex_any s w hs
  unfold LexP at this
  rw [h] at this
  refine this.mono ?_
  rintro e w' ⟨⟨v, rfl, hv⟩, hb⟩
  obtain ⟨A, cap, rfl, _, ht⟩ := tok_own hv rfl
  exact ⟨A, cap, rfl, ht, hb⟩
theorem bel2 (w : World) (o o' : Obj) : Bel w.heap.size w ((w.alloc o).alloc o') := ((Bel.refl _ _).alloc (Nat.le_refl _) _).alloc (by simp) _
theorem ext_list (s : ByteArray) (a b : Nat) : (s.extract a b).data.toList = (dr s a).take (b - a) := by
  simp [ByteArray.data_extract, List.extract_eq_take_drop, dr]

set_option maxRecDepth 100000 in
set_option maxHeartbeats 4000000 in
theorem blankq_lexerr (s : ByteArray) (w : World) (hlen' : s.size ≤ 300) (x : Int) (a : Nat) (hl : lexL s.data.toList = .error (x, a)) : Calls Tryd.prog 3 #[.string s] w fun e w' => e = .returned (.bool true) ∧ Bel w.heap.size w w' := by
  have HB := Lib.hid (Bel.refl w.heap.size w)
  have hlx := fun w => rlex_no w (by omega) hl
  obtain ⟨hx0, hx1⟩ := lexL_err0 hl
  have hp := parse_lexerr hl (by rw [bne_iff_ne] at hx1; exact hx1)
  have HP := Lib.hid (fun (W : World) => parse_err (s := s) W (by omega) hp)
  obtain ⟨U, hU⟩ : ∃ U : ByteArray, U = (⟨#[]⟩ : ByteArray) ++ s := ⟨_, rfl⟩
  have hUl : U.data.toList = s.data.toList := by rw [hU, app_list]; rfl
  have hUz : U.size ≤ 1000000 := by rw [← len_toList, hUl, len_toList]; omega
  have HP2 := Lib.hid (fun (W : World) => parse_err (s := U) W hUz (by rw [hUl]; exact hp))
  subst hU
  clear hUl hUz
  clear hl hp
  go_enter Tryd.func3, Tryd.ntmps3
  go_wp2_with (first | (go_at_call 7; refine (awake_any _).mono ?_; rintro e w1 ⟨rfl, hb⟩; have HB := Lib.hid (HB.out.next hb); clear hb) | (go_at_call 8; refine (hlx _).mono ?_; rintro e w1 ⟨rfl, hb⟩; have HF := Lib.hid (Blk.new w1 26 #[.int .i64 x, .int .i64 (a : Int)]); have HB := Lib.hid ((HB.out.next hb).alloc (HB.out.next hb).size (.cells #[.int .i64 x, .int .i64 (a : Int)] 26)); clear hb))
  generalize w1.alloc (.cells #[.int .i64 x, .int .i64 (a : Int)] 26) = W at HB HF ⊢
  go_loopg [5, 6, 7] 0 (fun _ u v x wr => u = .string ⟨#[]⟩ ∧ v = .int .i64 0 ∧ x = .int .i64 0 ∧ wr = W)
  case atStart => exact ⟨rfl, rfl, rfl, rfl⟩
  case round =>
    obtain ⟨rfl, rfl, rfl, rfl⟩ := hrel
    go_wp2_with (first | (go_at_call 9; (with_reducible refine (HP2.out _).mono ?_); rintro e w4 ⟨rfl, hb⟩; have HB4 := Lib.hid ((HB3.out.next hb).next (bel2 w4 (.cells #[.bool false, .slice none 0 0] 33) (.cells #[.int .i64 x, .int .i64 (a : Int)] 26))); have HF4 := Lib.hid (((HF3.out.bel hb HF3.out.lt).alloc (.cells #[.bool false, .slice none 0 0] 33)).alloc (.cells #[.int .i64 x, .int .i64 (a : Int)] 26)); have HP4 := Lib.hid (((HP3.out.bel hb HP3.out.lt).alloc (.cells #[.bool false, .slice none 0 0] 33)).alloc (.cells #[.int .i64 x, .int .i64 (a : Int)] 26)); have HE4 := Lib.hid (((HE3.out.bel hb HE3.out.lt).alloc (.cells #[.bool false, .slice none 0 0] 33)).alloc (.cells #[.int .i64 x, .int .i64 (a : Int)] 26)); clear hb; obtain ⟨fz, ⟨f0, f1⟩, ⟨ff0, ff1⟩⟩ := HF4.out.c2; obtain ⟨pz, ⟨p0, p1⟩, ⟨pf0, pf1⟩⟩ := HP4.out.c2; obtain ⟨ez, ⟨e0, e1⟩, ⟨ef0, ef1⟩⟩ := HE4.out.c2) | (go_at_call 9; (with_reducible refine (HP.out _).mono ?_); rintro e w3 ⟨rfl, hb⟩; have HB3 := Lib.hid ((HB.out.next hb).next (bel2 w3 (.cells #[.bool false, .slice none 0 0] 33) (.cells #[.int .i64 x, .int .i64 a] 26))); have HF3 := Lib.hid (((HF.out.bel hb HF.out.lt).alloc (.cells #[.bool false, .slice none 0 0] 33)).alloc (.cells #[.int .i64 x, .int .i64 a] 26)); have HP3 := Lib.hid ((Blk.new w3 33 #[.bool false, .slice none 0 0]).alloc (.cells #[.int .i64 x, .int .i64 a] 26)); have HE3 := Lib.hid (Blk.new1 w3 (.cells #[.bool false, .slice none 0 0] 33) 26 #[.int .i64 x, .int .i64 a]); clear hb))
    go_ret
    exact ⟨rfl, HB4.out⟩

set_option maxRecDepth 100000 in
set_option maxHeartbeats 4000000 in
theorem blankq_ok (s : ByteArray) (w : World) (hlen' : s.size ≤ 300) (l : List TokD) (hl : lexL s.data.toList = .ok l) : Calls Tryd.prog 3 #[.string s] w fun e w' => e = .returned (.bool true) ∧ Bel w.heap.size w w' := by
  have HB := Lib.hid (Bel.refl w.heap.size w)
  have hlx := fun w => rlex_yes w (by omega) hl
  have hol := lex_order s.data.toList
  rw [hl] at hol
  have hll := ordL_len _ _ hol.1
  rw [len_toList] at hll
  have HLX2 : Hid (∀ u : ByteArray, u.data.toList = blkL s.data.toList [32, 10] 0 l → match parseT true s.data.toList with | .ok p => parseT true u.data.toList = .ok p | .error (e, _) => ∃ a, parseT true u.data.toList = .error (e, a)) :=
    Lib.hid fun u hu => by
      rw [hu]
      exact blank_law hl (by intro d hd; simp at hd; rcases hd with rfl | rfl <;> rfl) (by rw [len_toList]; show s.size + 2 * l.length ≤ 4096; omega)
  have HO0 := Lib.hid hol.1
  clear hl hol
  go_enter Tryd.func3, Tryd.ntmps3
  go_wp2_with (first | (go_at_call 7; refine (awake_any _).mono ?_; rintro e w1 ⟨rfl, hb⟩; have HB := Lib.hid (HB.out.next hb); clear hb) | (go_at_call 8; refine (hlx _).mono ?_; rintro e w1 ⟨A, cap, rfl, ht, hb⟩; have HT := Lib.hid (ht.bel ((Bel.refl _ w1).alloc (Nat.le_refl _) (.cells #[.int .i64 0, .int .i64 0] 26))); have HF := Lib.hid (Blk.new w1 26 #[.int .i64 0, .int .i64 0]); have HB := Lib.hid ((HB.out.next hb).alloc (HB.out.next hb).size (.cells #[.int .i64 0, .int .i64 0] 26)); clear hb ht))
  obtain ⟨b4, hb4⟩ : ∃ b4, w1.heap.size = b4 := ⟨_, rfl⟩
  rw [hb4] at HF ⊢
  generalize w1.alloc (.cells #[.int .i64 0, .int .i64 0] 26) = w2 at HT HB HF ⊢
  clear hb4
  go_loopg [5, 6, 7] l.length (fun k u v x wr => ∃ (i fr last : Nat) (t : ByteArray), k = l.length - i ∧ i ≤ l.length ∧ last ≤ fr ∧ last ≤ s.size ∧ t.size ≤ last + 2 * i ∧ u = .string t ∧ v = .int .i64 last ∧ x = .int .i64 i ∧ Hid (t.data.toList ++ blkL s.data.toList [32, 10] last (l.drop i) = blkL s.data.toList [32, 10] 0 l) ∧ Hid (ordL s.data.toList fr (l.drop i) = true) ∧ wr = w2)
  case atStart => exact ⟨0, 0, 0, ⟨#[]⟩, by omega, Nat.zero_le _, Nat.le_refl _, Nat.zero_le _, (show 0 ≤ _ by omega), rfl, rfl, rfl, Lib.hid (by simp), Lib.hid (by simpa using HO0.out), rfl⟩
  case round =>
    clear HO0
    obtain ⟨i, fr, last, t, hgk, hi, hlf, hls, htz, rfl, rfl, rfl, HBK, HI, rfl⟩ := hrel
    have HGK := Lib.hid hgk; clear hgk
    by_cases hlt : i < l.length
    · obtain ⟨bb, off, rfl, hbl, hcc⟩ := HT.out.resolve_left (by intro e; rw [e] at hlt; simp at hlt)
      obtain ⟨x, hx⟩ : ∃ x, l[i]? = some x := ⟨_, List.getElem?_eq_getElem hlt⟩
      obtain ⟨d0, d1, d2, d3, d4⟩ := hcc i x hx
      have hdx : l.drop i = x :: l.drop (i + 1) := by
        rw [List.drop_eq_getElem_cons hlt]; rw [List.getElem?_eq_getElem hlt] at hx; injection hx with hx; rw [hx]
      obtain ⟨o1, o2, o3, o4⟩ := ordL_cons (hdx ▸ HI.out)
      have HI2 : Hid (∃ fr', x.at_ ≤ fr' ∧ ordL s.data.toList fr' (l.drop (i + 1)) = true) := by
        split at o4
        · exact Lib.hid ⟨_, Nat.le_add_right _ _, o4.2.2.2⟩
        · exact Lib.hid ⟨_, Nat.le_add_right _ _, o4⟩
      rw [len_toList] at o2
      have HBK := Lib.hid (hdx ▸ HBK.out)
      rw [blkL] at HBK
      obtain ⟨g, hg⟩ : ∃ g, x.gap = g := ⟨_, rfl⟩
      rw [hg] at d4 HBK
      clear hcc hx hdx o3 o4 hg
      cases g with
      | false =>
        go_wp2
        go_roundg (l.length - (i + 1))
        case measure => have := HGK.out; omega
        case rel =>
          obtain ⟨fr', h0, h1⟩ := HI2.out
          exact ⟨i + 1, fr', last, t, rfl, by omega, by omega, by omega, by omega, rfl, rfl, by simp, Lib.hid (by simpa using HBK.out), Lib.hid h1, rfl⟩
      | true =>
        have hla : last ≤ x.at_ := by omega
        go_wp2
        go_roundg (l.length - (i + 1))
        case measure => have := HGK.out; omega
        case rel =>
          obtain ⟨fr', h0, h1⟩ := HI2.out
          exact ⟨i + 1, fr', x.at_, t ++ (s.extract last x.at_ ++ ⟨#[32, 10]⟩), rfl, by omega, by omega, by omega, (by have h2 : (⟨#[32, 10]⟩ : ByteArray).size = 2 := rfl; rw [ByteArray.size_append, ByteArray.size_append, ByteArray.size_extract, h2]; omega), rfl, rfl, by simp, Lib.hid (by rw [app_list, app_list, ext_list, ← HBK.out]; simp only [List.append_assoc, ite_true]; rfl), Lib.hid h1, rfl⟩
    · obtain ⟨U, hU⟩ : ∃ U, U = t ++ s.extract last s.size := ⟨_, rfl⟩
      have hUz : U.size ≤ 1000000 := by rw [hU, ByteArray.size_append, ByteArray.size_extract]; omega
      have hul := HLX2.out U (by rw [hU, app_list, ext_drop, ← HBK.out, show l.drop i = [] from List.drop_of_length_le (by omega)]; rfl)
      cases hp : parseT true s.data.toList with
      | ok p =>
        rw [hp] at hul
        have HPA := Lib.hid (fun W => parse_ok (s := s) W (by omega) hp)
        have HPB := Lib.hid (fun W => parse_ok (s := U) W hUz hul)
        subst hU
        clear hp hul hUz HLX2 HBK HI HT
        go_wp2_with (first
          | (go_at_call 9; (with_reducible refine (HPA.out _).mono ?_); rintro e w3 ⟨m1, A1, c1, rfl, hsg, hb⟩; have H1 := Lib.hid (M1.start (HB.out.next hb) hsg); have HF3 := Lib.hid (((HF.out.bel hb HF.out.lt).alloc (.cells #[.bool p.abs, .slice A1 p.segs.length c1] 33)).alloc (.cells #[.int .i64 0, .int .i64 0] 26)); clear hb hsg)
          | (go_at_call 9; (with_reducible refine (HPB.out _).mono ?_); rintro e w4 ⟨m2, A2, c2, rfl, hsg, hb⟩; have H2 := Lib.hid (M1.start (H1.out.bel.next hb) hsg); have H1b := Lib.hid (((H1.out.next hb).al (.cells #[.bool p.abs, .slice A2 p.segs.length c2] 33)).al (.cells #[.int .i64 0, .int .i64 0] 26)); have HF4 := Lib.hid (((HF3.out.bel hb HF3.out.lt).alloc (.cells #[.bool p.abs, .slice A2 p.segs.length c2] 33)).alloc (.cells #[.int .i64 0, .int .i64 0] 26)); have HSM := Lib.hid (same_one p A1 A2 c1 c2 _ H1b.out.g1 H2.out.g1); clear hb hsg; obtain ⟨fz, ⟨f0, f1⟩, ⟨ff0, ff1⟩⟩ := HF4.out.c2; obtain ⟨pz, ⟨p0, p1⟩, ⟨pf0, pf1⟩⟩ := H1b.out.p1.c2; obtain ⟨ez, ⟨e0, e1⟩, ⟨ef0, ef1⟩⟩ := H1b.out.f1.c2)
          | (go_at_call 10; refine HSM.out.mono ?_; rintro e w9 ⟨rfl, hb⟩; have HB9 := Lib.hid (H2.out.bel.next hb); clear hb))
        go_ret
        exact ⟨rfl, HB9.out⟩
      | error y =>
        obtain ⟨x, a⟩ := y
        rw [hp] at hul
        obtain ⟨a2, hul⟩ := hul
        have HPA := Lib.hid (fun W => parse_err (s := s) W (by omega) hp)
        have HPB := Lib.hid (fun W => parse_err (s := U) W hUz hul)
        subst hU
        clear hp hul hUz HLX2 HBK HI HT
        go_wp2_with (first | (go_at_call 9; (with_reducible refine (HPA.out _).mono ?_); rintro e w3 ⟨rfl, hb⟩; have HB3 := Lib.hid ((HB.out.next hb).next (bel2 w3 (.cells #[.bool false, .slice none 0 0] 33) (.cells #[.int .i64 x, .int .i64 a] 26))); have HF3 := Lib.hid (((HF.out.bel hb HF.out.lt).alloc (.cells #[.bool false, .slice none 0 0] 33)).alloc (.cells #[.int .i64 x, .int .i64 a] 26)); have HP3 := Lib.hid ((Blk.new w3 33 #[.bool false, .slice none 0 0]).alloc (.cells #[.int .i64 x, .int .i64 a] 26)); have HE3 := Lib.hid (Blk.new1 w3 (.cells #[.bool false, .slice none 0 0] 33) 26 #[.int .i64 x, .int .i64 a]); clear hb) | (go_at_call 9; (with_reducible refine (HPB.out _).mono ?_); rintro e w4 ⟨rfl, hb⟩; have HB4 := Lib.hid ((HB3.out.next hb).next (bel2 w4 (.cells #[.bool false, .slice none 0 0] 33) (.cells #[.int .i64 x, .int .i64 a2] 26))); have HF4 := Lib.hid (((HF3.out.bel hb HF3.out.lt).alloc (.cells #[.bool false, .slice none 0 0] 33)).alloc (.cells #[.int .i64 x, .int .i64 a2] 26)); have HP4 := Lib.hid (((HP3.out.bel hb HP3.out.lt).alloc (.cells #[.bool false, .slice none 0 0] 33)).alloc (.cells #[.int .i64 x, .int .i64 a2] 26)); have HE4 := Lib.hid (((HE3.out.bel hb HE3.out.lt).alloc (.cells #[.bool false, .slice none 0 0] 33)).alloc (.cells #[.int .i64 x, .int .i64 a2] 26)); clear hb; obtain ⟨fz, ⟨f0, f1⟩, ⟨ff0, ff1⟩⟩ := HF4.out.c2; obtain ⟨pz, ⟨p0, p1⟩, ⟨pf0, pf1⟩⟩ := HP4.out.c2; obtain ⟨ez, ⟨e0, e1⟩, ⟨ef0, ef1⟩⟩ := HE4.out.c2) | (go_at_call 10; refine (same_one (K := fun _ => True) (K' := fun _ => True) (m := 0) (m' := 0) path0 none none 0 0 _ (RowG.nil _ _ _ _) (RowG.nil _ _ _ _)).mono ?_; rintro e w9 ⟨rfl, hb⟩; have HB9 := Lib.hid (HB4.out.next hb); clear hb))
        go_ret
        exact ⟨rfl, HB9.out⟩
theorem blankqLaw_any (s : ByteArray) (w : World) (_hs : s.size ≤ maxLen) : Calls Tryd.prog 3 #[.string s] w fun e w' => e = .returned (.bool true) ∧ Bel w.heap.size w w' := by
  by_cases hlen : 300 < s.size
  · have HB := Lib.hid (Bel.refl w.heap.size w)
    have hs2 := _hs
    unfold maxLen at hs2
    clear _hs
    go_enter Tryd.func3, Tryd.ntmps3
    go_wp2_with (go_at_call 7; refine (awake_any _).mono ?_; rintro e w1 ⟨rfl, hb⟩; have HB := Lib.hid (HB.out.next hb); clear hb)
    go_ret
    exact ⟨rfl, HB.out⟩
  · cases hl : lexL s.data.toList with
    | error xa => exact blankq_lexerr s w (by omega) xa.1 xa.2 hl
    | ok l => exact blankq_ok s w (by omega) l hl

end Go.Proofs.YtmopeandckmgcaaDoor
