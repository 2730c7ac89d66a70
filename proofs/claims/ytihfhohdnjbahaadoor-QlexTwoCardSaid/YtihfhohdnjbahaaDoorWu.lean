/- law16: QlexTwo, walked. -/
import Derived.Test.YtihfhohdnjbahaaDoorWt
import Derived.Test.YtihfhohdnjbahaaDoorUh
namespace Go.Proofs.YtihfhohdnjbahaaDoor
open Go.RowKit

/-- A row of tokens of the call's own, in blocks made since a world. -/
def TW (w0 wr : World) (v : Value) (toks : List TokD) : Prop :=
  wr.ownsRow w0.heap.size 32 5 v toks.length (toks.flatMap tokC) ∧ Bel w0.heap.size w0 wr ∧ w0.heap.size ≤ wr.heap.size
theorem TW.bel {w0 wr w2 : World} {v : Value} {toks : List TokD} (h : TW w0 wr v toks) (hb : Bel wr.heap.size wr w2) : TW w0 w2 v toks :=
  ⟨ownsRow_bel h.1 hb (Nat.le_refl _), h.2.1.next hb, Nat.le_trans h.2.2 hb.size⟩
theorem TW.grown {w0 wr w2 : World} {v v' : Value} {toks news : List TokD} {n : Nat} (h : TW w0 wr v toks) (hn : n = news.length) (h1 : w2.ownsRow w0.heap.size 32 5 v' (toks.length + n) (toks.flatMap tokC ++ news.flatMap tokC)) (h2 : wr.grownBy w2 v.ownBlock) : TW w0 w2 v' (toks ++ news) := by
  have hk : ∀ k, v.ownBlock = some k → w0.heap.size ≤ k := fun k hk => (h.1.lt k hk).1
  have hb : Bel w0.heap.size wr w2 := grown_bel h2 h.2.2 hk
  refine ⟨?_, h.2.1.trans hb, Nat.le_trans h.2.2 hb.size⟩
  rw [List.length_append, List.flatMap_append, ← hn]
  exact h1
theorem TW.start (w0 : World) : TW w0 (w0.alloc (.cells #[] 32)) (.slice (some ⟨w0.heap.size, 0, none⟩) 0 0) [] :=
  ⟨World.ownsRow_lit w0 #[] 0 (Nat.le_refl _) (by unfold maxLen; omega) (by simp), (Bel.refl _ _).alloc (Nat.le_refl _) _, by simp⟩
theorem TW.tk {w0 wr : World} {v : Value} {toks : List TokD} (h : TW w0 wr v toks) : ∃ A cap, v = .slice A toks.length cap ∧ toks.length ≤ cap ∧ TkR wr A toks := tok_own h.1 rfl
theorem past2 {w1 w2 : World} {a b : Value} (hb : Bel (w1.alloc (.cells #[a, b] 26)).heap.size (w1.alloc (.cells #[a, b] 26)) w2) : w1.heap.size < w2.heap.size ∧ w2.cell? ⟨w1.heap.size, 0, none⟩ = some a := by
  have h1 := hb.size
  have h2 := (Blk.new w1 26 #[a, b]).lt
  exact ⟨by omega, (hb.cell (p := ⟨w1.heap.size, 0, none⟩) h2).trans ((Blk.new w1 26 #[a, b]).cell 0)⟩
section
variable {P : Program} (w : World)
theorem wpList_run {ops : Array Oper} {rest : List Oper} {o : Oper} {a : Act} {Q : Exit → Act → World → Prop} (hgd : o.guard = none) (t : TypeId) (n : Nat)
    (ho : o.op = .buildSlice t n #[]) (v : Value) (w' : World) (hr : (Instr.buildSlice t n #[]).run P w = .ok v w') (h : wpList P ops Q rest (a.put o.dst v) w') : wpList P ops Q (o :: rest) a w :=
  wpList_plain hgd fun K hK => by
    unfold Oper.wp execOp
    simp only [ho, Sem.run_bind, Sem.run_pure, Result.andThen_ok, List.map_toArray, List.map_nil, hr]
    exact hK _ _ h
end
theorem lit_tok (w : World) : (Instr.buildSlice 23 0 #[]).run Tryd.prog w = .ok (.slice (some ⟨w.heap.size, 0, none⟩) 0 0) (w.alloc (.cells #[] 32)) := by kernel_rfl
theorem reads_tok {w : World} {A : Option Addr} {toks : List TokD} (h : TkR w A toks) : Reads w w.heap.size 5 A toks.length (toks.flatMap tokC) := by
  refine reads_flat tokC 5 tokC_len (by decide) w A toks (h.imp id ?_)
  rintro ⟨b, off, e, hb, hc⟩
  refine ⟨b, off, e, hb, fun i x hx j u hu => ?_⟩
  obtain ⟨h0, h1, h2, h3, h4⟩ := hc i x hx
  match j, hu with
  | 0, hu => cases hu; exact h0
  | 1, hu => cases hu; exact h1
  | 2, hu => cases hu; exact h2
  | 3, hu => cases hu; exact h3
  | 4, hu => cases hu; exact h4
theorem ordL_at {l : List UInt8} : ∀ (r : List TokD) (fr : Nat), ordL l fr r = true → ∀ x ∈ r, x.at_ < l.length
  | [], _, _, _, hx => by simp at hx
  | y :: r, fr, h, x, hx => by
    obtain ⟨-, h2, -, h3⟩ := ordL_cons h
    rcases List.mem_cons.1 hx with rfl | hx
    · exact h2
    · split at h3
      · exact ordL_at r _ h3.2.2.2 x hx
      · exact ordL_at r _ h3 x hx
theorem twoT_take (d : Nat) (m : List TokD) (i : Nat) (x : TokD) (h : m[i]? = some x) : (twoT d m).take (i + 1) = (twoT d m).take i ++ [⟨x.kind, x.s, x.n, x.at_ + d, x.gap || decide (i = 0)⟩] := by
  rw [List.take_add_one]
  congr 1
  unfold twoT
  rw [List.getElem?_mapIdx, h]; rfl
theorem twoT_len (d : Nat) (m : List TokD) : (twoT d m).length = m.length := by unfold twoT; simp

set_option maxRecDepth 100000 in
set_option maxHeartbeats 4000000 in
theorem twoLaw_any (s t : ByteArray) (w : World) (hs : s.size ≤ maxLen) (ht : t.size ≤ maxLen) :
    Calls Tryd.prog 6 #[.string s, .string t] w fun e w' => e = .returned (.bool true) ∧ Bel w.heap.size w w' := by
  have HB := Lib.hid (Bel.refl w.heap.size w)
  by_cases hlen : 200 < s.size
  · unfold maxLen at hs ht
    go_enter Tryd.func6, Tryd.ntmps6
    go_wp2_with (go_at_call 7; refine (awake_any _).mono ?_; rintro e w1 ⟨rfl, hb⟩; have HB := Lib.hid (HB.out.next hb); clear hb)
    go_ret
    exact ⟨rfl, HB.out⟩
  by_cases hlen2 : 200 < t.size
  · unfold maxLen at hs ht
    go_enter Tryd.func6, Tryd.ntmps6
    go_wp2_with (go_at_call 7; refine (awake_any _).mono ?_; rintro e w1 ⟨rfl, hb⟩; have HB := Lib.hid (HB.out.next hb); clear hb)
    go_ret
    exact ⟨rfl, HB.out⟩
  have hlen' : s.size ≤ 200 := by omega
  have hlen2' : t.size ≤ 200 := by omega
  cases hl : lexL s.data.toList with
  | error xa =>
    obtain ⟨x, a⟩ := xa
    have hlx := fun w => lex_no w (by omega) hl
    obtain ⟨hx0, hx1⟩ := lexL_err0 hl
    clear hl
    cases hm : lexL t.data.toList with
    | error ya =>
      obtain ⟨y, b⟩ := ya
      have hly := fun w => lex_no w (by omega) hm
      clear hm
      go_enter Tryd.func6, Tryd.ntmps6
      go_wp2_with (first
        | (go_at_call 7; refine (awake_any _).mono ?_; rintro e w1 ⟨rfl, hb⟩; have HB := Lib.hid (HB.out.next hb); clear hb)
        | (go_at_call_of 8 (Value.string s); refine (hlx _).mono ?_; rintro e w1 ⟨rfl, hb⟩; have HB := Lib.hid (HB.out.next hb); clear hb)
        | (go_at_call_of 8 (Value.string t); refine (hly _).mono ?_; rintro e w2 ⟨rfl, hb⟩; have HB2 := Lib.hid ((HB.out.alloc HB.out.size _).next hb); obtain ⟨hl12, c0⟩ := past2 hb; clear hb))
      go_ret
      exact ⟨rfl, HB2.out.alloc HB2.out.size _⟩
    | ok m =>
      have hly := fun w => lex_yes w (by omega) hm
      clear hm
      go_enter Tryd.func6, Tryd.ntmps6
      go_wp2_with (first
        | (go_at_call 7; refine (awake_any _).mono ?_; rintro e w1 ⟨rfl, hb⟩; have HB := Lib.hid (HB.out.next hb); clear hb)
        | (go_at_call_of 8 (Value.string s); refine (hlx _).mono ?_; rintro e w1 ⟨rfl, hb⟩; have HB := Lib.hid (HB.out.next hb); clear hb)
        | (go_at_call_of 8 (Value.string t); refine (hly _).mono ?_; rintro e w2 ⟨A2, cap2, rfl, hcap2, ht2, hb⟩; have HB2 := Lib.hid ((HB.out.alloc HB.out.size _).next hb); obtain ⟨hl12, c0⟩ := past2 hb; clear hb ht2))
      go_ret
      exact ⟨rfl, HB2.out.alloc HB2.out.size _⟩
  | ok l =>
    have hlx := fun w => lex_yes w (by omega) hl
    cases hm : lexL t.data.toList with
    | error ya =>
      obtain ⟨y, b⟩ := ya
      have hly := fun w => lex_no w (by omega) hm
      obtain ⟨hy0, hy1⟩ := lexL_err0 hm
      clear hm hl
      go_enter Tryd.func6, Tryd.ntmps6
      go_wp2_with (first
        | (go_at_call 7; refine (awake_any _).mono ?_; rintro e w1 ⟨rfl, hb⟩; have HB := Lib.hid (HB.out.next hb); clear hb)
        | (go_at_call_of 8 (Value.string s); refine (hlx _).mono ?_; rintro e w1 ⟨A1, cap1, rfl, hcap1, ht1, hb⟩; have HB := Lib.hid (HB.out.next hb); clear hb ht1)
        | (go_at_call_of 8 (Value.string t); refine (hly _).mono ?_; rintro e w2 ⟨rfl, hb⟩; have HB2 := Lib.hid ((HB.out.alloc HB.out.size _).next hb); obtain ⟨hl12, c0⟩ := past2 hb; clear hb))
      go_ret
      exact ⟨rfl, HB2.out.alloc HB2.out.size _⟩
    | ok m =>
      have hly := fun w => lex_yes w (by omega) hm
      have hol := lex_order s.data.toList
      have hom := lex_order t.data.toList
      rw [hl] at hol
      rw [hm] at hom
      have hll := ordL_len _ _ hol.1
      have hml := ordL_len _ _ hom.1
      rw [len_toList] at hll hml
      have HMA := Lib.hid (ordL_at _ _ hom.1)
      have hm0 : 0 < m.length := List.length_pos_iff.2 hom.2
      obtain ⟨d, hd⟩ : ∃ d, s.size + 1 = d := ⟨_, rfl⟩
      have HT := Lib.hid (lex_two hl hm (by rw [len_toList, len_toList]; omega))
      rw [len_toList, hd] at HT
      obtain ⟨n3, hn3⟩ : ∃ n3, (l ++ twoT d m).length = n3 := ⟨_, rfl⟩
      have hn3' : l.length + m.length = n3 := by rw [← hn3, List.length_append, twoT_len]
      have hlz : ∀ (u : ByteArray), u.data.toList = s.data.toList ++ 32 :: t.data.toList → ∀ w, Calls Tryd.prog 8 #[.string u] w fun e w' => ∃ A cap, e = .returned (.tuple #[.slice A n3 cap, .agg #[.int .i64 0, .int .i64 0]]) ∧ n3 ≤ cap ∧ TkR w' A (l ++ twoT d m) ∧ Bel w.heap.size w w' := by
        intro u hu w
        rw [← hn3]
        refine lex_yes (s := u) w ?_ (by rw [hu]; exact HT.out)
        have := congrArg List.length hu
        rw [len_toList, List.length_append, List.length_cons, len_toList, len_toList] at this; omega
      have HN3 := Lib.hid hn3
      have HD := Lib.hid hd
      clear hl hm hol hom hn3 HT hd
      obtain ⟨i0, hi0, hz0, hz1, hz2'⟩ := info_parts info_tok
      go_enter Tryd.func6, Tryd.ntmps6
      go_upto_region 7 with (first
        | (go_at_call 7; refine (awake_any _).mono ?_; rintro e w1 ⟨rfl, hb⟩; have HB := Lib.hid (HB.out.next hb); clear hb)
        | (go_at_call_of 8 (Value.string s); refine (hlx _).mono ?_; rintro e w1 ⟨A1, cap1, rfl, hcap1, ht1, hb⟩; have HB := Lib.hid (HB.out.next hb); have HT1 := Lib.hid ht1; clear hb ht1)
        | (go_at_call_of 8 (Value.string t); refine (hly _).mono ?_; rintro e w2 ⟨A2, cap2, rfl, hcap2, ht2, hb⟩; have HB2 := Lib.hid ((HB.out.alloc HB.out.size _).next hb); obtain ⟨hl12, c0⟩ := past2 hb; have HT2 := Lib.hid ht2; have HT1 := Lib.hid (HT1.out.bel (((Bel.refl _ _).alloc (Nat.le_refl _) _).trans (hb.mono (by simp)))); clear hb ht2))
      have HB3 := Lib.hid (HB2.out.alloc HB2.out.size (.cells #[.int .i64 0, .int .i64 0] 26))
      have HT13 := Lib.hid (HT1.out.bel ((Bel.refl _ w2).alloc (Nat.le_refl _) (.cells #[.int .i64 0, .int .i64 0] 26)))
      have HT23 := Lib.hid (HT2.out.bel ((Bel.refl _ w2).alloc (Nat.le_refl _) (.cells #[.int .i64 0, .int .i64 0] 26)))
      obtain ⟨w3, hw3⟩ : ∃ w3, w2.alloc (.cells #[.int .i64 0, .int .i64 0] 26) = w3 := ⟨_, rfl⟩
      rw [hw3] at HB3 HT13 HT23 ⊢
      clear hw3 c0 hl12
      have HR13 := Lib.hid (reads_tok (HT13.out.bel ((Bel.refl _ _).alloc (Nat.le_refl _) (.cells #[] 32))))
      have HTW0 := Lib.hid (TW.start w3)
      go_upto_region 8 with (first
        | (refine wpList_run _ rfl _ _ rfl _ _ (lit_tok _) ?_)
        | (at_builtin; refine wpList_append_any _ rfl (.tmp 58) (.tmp 59) 23 rfl w3.heap.size 32 i0 _ 5 48 Tryd.underlying23 hi0 hz0 hz1 hz2' rfl (by decide) (.slice (some ⟨w3.heap.size, 0, none⟩) 0 0) 0 [] rfl HTW0.out.1 _ A1 l.length cap1 (l.flatMap tokC) rfl HR13.out (tok_one _) (by unfold maxLen; omega) (by omega) (by simp) ?_; intro v4 w4 hown4 hg4 _; have HTW := Lib.hid (TW.grown HTW0.out rfl hown4 hg4); clear hown4 hg4))
      clear HT13 HR13 HTW0
      rw [List.nil_append] at HTW
      go_wp2
      go_loopg [9, 10, 11] m.length (fun k u v _ wr => ∃ i : Nat, k = m.length - i ∧ i ≤ m.length ∧ v = .int .i64 i ∧ Hid (TW w3 wr u (l ++ (twoT d m).take i)))
      case atStart => exact ⟨0, by omega, by omega, rfl, by rw [List.take_zero, List.append_nil]; exact HTW⟩
      case round =>
        clear HTW
        obtain ⟨i, hgk, hi, rfl, HTW⟩ := hrel
        have HT := Lib.hid (HT23.out.bel HTW.out.2.1)
        have HGK := Lib.hid hgk; clear hgk
        by_cases hlt : i < m.length
        · obtain ⟨b, off, rfl, hbl, hc⟩ := HT.out.resolve_left (by intro e; rw [e] at hlt; simp at hlt)
          obtain ⟨x, hx⟩ : ∃ x, m[i]? = some x := ⟨_, List.getElem?_eq_getElem hlt⟩
          obtain ⟨d0, d1, d2, d3, d4⟩ := hc i x hx
          have hat : x.at_ < t.size := by have := HMA.out x (List.mem_of_getElem? hx); rw [len_toList] at this; exact this
          have HTK := Lib.hid (twoT_take d m i x hx)
          have HTA := Lib.hid HTW.out.tk
          obtain ⟨g, hg⟩ : ∃ g, x.gap = g := ⟨_, rfl⟩
          rw [hg] at d4 HTK
          clear hc hx hg
          have HTL := Lib.hid (show (l ++ (twoT d m).take i).length = l.length + i by rw [List.length_append, List.length_take, twoT_len]; omega)
          cases g with
          | true =>
            go_wp2_with (at_builtin; refine wpList_append_any _ rfl (.tmp 85) (.tmp 87) 23 rfl w3.heap.size 32 i0 _ 5 48 Tryd.underlying23 hi0 hz0 hz1 hz2' rfl (by decide) _ _ _ rfl (HTW.out.bel bel_lit2).1 (wr.heap.size + 1 + 1) (some ⟨wr.heap.size + 1, 0, none⟩) 1 1 [.int .i64 x.kind, .string (bs x.s), .int .i64 x.n, .int .i64 ((x.at_ : Int) + ((s.size : Int) + 1)), .bool true] rfl (by have := reads_new (wr.alloc (.cells #[.int .i64 x.kind, .string (bs x.s), .int .i64 x.n, .int .i64 ((x.at_ : Int) + ((s.size : Int) + 1)), .bool true] 32)) 32 5 1 [.int .i64 x.kind, .string (bs x.s), .int .i64 x.n, .int .i64 ((x.at_ : Int) + ((s.size : Int) + 1)), .bool true] rfl; simpa using this) (by simp [Value.oneCell']) (by rw [HTL.out]; unfold maxLen; omega) (by rw [HTL.out]; omega) (by have := HTW.out.2.2; simp; omega) ?_; intro v' w5 hown5 hg5 _; have HX3 : Hid (TW w3 w5 v' (l ++ (twoT d m).take (i + 1))) := Lib.hid (by rw [HTK.out, ← List.append_assoc]; exact TW.grown (HTW.out.bel bel_lit2) rfl (by rw [show List.flatMap tokC [⟨x.kind, x.s, x.n, x.at_ + d, true || decide (i = 0)⟩] = [.int .i64 x.kind, .string (bs x.s), .int .i64 x.n, .int .i64 ((x.at_ : Int) + ((s.size : Int) + 1)), .bool true] by simp [tokC, ← HD.out]]; exact hown5) hg5); clear hown5 hg5)
            go_roundg (m.length - (i + 1))
            case measure => have := HGK.out; simp; omega
            case rel => exact ⟨i + 1, rfl, by omega, by simp, HX3⟩
          | false =>
            obtain ⟨z, hz⟩ : ∃ z, ((i : Int) == 0) = z := ⟨_, rfl⟩
            have HZ := Lib.hid (show z = decide (i = 0) by rw [← hz, Bool.eq_iff_iff]; simp)
            go_wp2_with (at_builtin; refine wpList_append_any _ rfl (.tmp 85) (.tmp 87) 23 rfl w3.heap.size 32 i0 _ 5 48 Tryd.underlying23 hi0 hz0 hz1 hz2' rfl (by decide) _ _ _ rfl (HTW.out.bel bel_lit2).1 (wr.heap.size + 1 + 1) (some ⟨wr.heap.size + 1, 0, none⟩) 1 1 [.int .i64 x.kind, .string (bs x.s), .int .i64 x.n, .int .i64 ((x.at_ : Int) + ((s.size : Int) + 1)), .bool z] rfl (by have := reads_new (wr.alloc (.cells #[.int .i64 x.kind, .string (bs x.s), .int .i64 x.n, .int .i64 ((x.at_ : Int) + ((s.size : Int) + 1)), .bool z] 32)) 32 5 1 [.int .i64 x.kind, .string (bs x.s), .int .i64 x.n, .int .i64 ((x.at_ : Int) + ((s.size : Int) + 1)), .bool z] rfl; simpa using this) (by simp [Value.oneCell']) (by rw [HTL.out]; unfold maxLen; omega) (by rw [HTL.out]; omega) (by have := HTW.out.2.2; simp; omega) ?_; intro v' w5 hown5 hg5 _; have HX3 : Hid (TW w3 w5 v' (l ++ (twoT d m).take (i + 1))) := Lib.hid (by rw [HTK.out, ← List.append_assoc]; exact TW.grown (HTW.out.bel bel_lit2) rfl (by rw [show List.flatMap tokC [⟨x.kind, x.s, x.n, x.at_ + d, false || decide (i = 0)⟩] = [.int .i64 x.kind, .string (bs x.s), .int .i64 x.n, .int .i64 ((x.at_ : Int) + ((s.size : Int) + 1)), .bool z] by simp [tokC, ← HD.out, HZ.out]]; exact hown5) hg5); clear hown5 hg5)
            go_roundg (m.length - (i + 1))
            case measure => have := HGK.out; simp; omega
            case rel => exact ⟨i + 1, rfl, by omega, by simp, HX3⟩
        · have HFN := Lib.hid (show l ++ (twoT d m).take i = l ++ twoT d m by rw [List.take_of_length_le (by rw [twoT_len]; omega)])
          have HTW2 := Lib.hid (show TW w3 wr u9 (l ++ twoT d m) from by rw [← HFN.out]; exact HTW.out)
          obtain ⟨A4, cap4, hv4, hcap4, _⟩ := HTW2.out.tk
          rw [HN3.out] at hv4 hcap4
          subst hv4
          have HTK4 := Lib.hid (show TkR wr A4 (l ++ twoT d m) from by obtain ⟨A, cap, hv, _, ht⟩ := HTW2.out.tk; cases hv; exact ht)
          have HB5 := Lib.hid (HB3.out.next HTW.out.2.1)
          clear HTW HTW2 HFN HT HGK
          go_upto_region 16 with (go_at_call 8; (with_reducible refine (hlz _ (by simp [ByteArray.data_append]) _).mono ?_); rintro e w6 ⟨A3, cap3, rfl, hcap3, ht3, hb⟩; have HB6 := Lib.hid (HB5.out.next hb); have HSM := Lib.hid (fun wz (hbz : Bel w6.heap.size w6 wz) => same_any A3 A4 (l ++ twoT d m) (l ++ twoT d m) n3 cap3 cap4 true wz (ht3.bel hbz) ((HTK4.out.bel hb).bel hbz) HN3.out HN3.out (by omega) (fun i x y hx hy => by rw [hx] at hy; cases hy; exact ⟨rfl, rfl, rfl, fun _ => ⟨rfl, rfl⟩⟩)); clear hb ht3)
          go_wp2_with (go_at_call 10; (with_reducible refine (HSM.out _ bel_lit).mono ?_); rintro e w7 ⟨rfl, hb⟩; have HB7 := Lib.hid ((HB6.out.alloc HB6.out.size _).next hb); clear hb)
          go_ret
          exact ⟨rfl, HB7.out⟩

end Go.Proofs.YtihfhohdnjbahaaDoor
