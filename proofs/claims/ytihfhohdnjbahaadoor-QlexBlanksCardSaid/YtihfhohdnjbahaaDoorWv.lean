/- law16: QlexBlanks, walked. -/
import Derived.Test.YtihfhohdnjbahaaDoorWu
namespace Go.Proofs.YtihfhohdnjbahaaDoor
open Go.RowKit

theorem lex_gap0 {l : List UInt8} {x : TokD} {r : List TokD} (h : lexL l = .ok (x :: r)) : x.gap = false := by
  obtain ⟨-, hm, hf⟩ := lexL_inv h
  have hn : l ≠ [] := by rintro rfl; rw [lexF_nil] at hf; cases hf
  obtain ⟨k, t, v, n, r', hc, -, -, -, -, -, -, he⟩ := lexF_inv hn hf
  injection he with he _
  rw [he]
  simp only [decide_eq_false_iff_not]
  intro h0; exact hc ⟨h0, .inl rfl⟩
theorem ext_list (s : ByteArray) (a b : Nat) : (s.extract a b).data.toList = (dr s a).take (b - a) := by
  simp [ByteArray.data_extract, List.extract_eq_take_drop, dr]
theorem cat_list (s t : ByteArray) : (s ++ t).data.toList = s.data.toList ++ t.data.toList := by simp [ByteArray.data_append]

theorem wf_u8 {n : Int} (h : (Lit.int .u8 n).wf = true) : 0 ≤ n ∧ n ≤ 255 := by
  have e1 : IntKind.u8.min = 0 := by decide
  have e2 : IntKind.u8.max = 255 := by decide
  simp only [Lit.wf, e1, e2] at h
  simpa using h

set_option maxRecDepth 100000 in
set_option maxHeartbeats 4000000 in
theorem blankLaw_any (s : ByteArray) (n : Int) (w : World) (hs : s.size ≤ maxLen) (hn : (Lit.int .u8 n).wf = true) :
    Calls Tryd.prog 4 #[.string s, .int .u8 n] w fun e w' => e = .returned (.bool true) ∧ Bel w.heap.size w w' := by
  have HB := Lib.hid (Bel.refl w.heap.size w)
  have hn0 : 0 ≤ n := (wf_u8 hn).1
  have hn1 : n ≤ 255 := (wf_u8 hn).2
  clear hn
  by_cases hlen : 300 < s.size
  · unfold maxLen at hs
    go_enter Tryd.func4, Tryd.ntmps4
    go_wp2_with (go_at_call 7; refine (awake_any _).mono ?_; rintro e w1 ⟨rfl, hb⟩; have HB := Lib.hid (HB.out.next hb); clear hb)
    go_ret
    exact ⟨rfl, HB.out⟩
  have hlen' : s.size ≤ 300 := by omega
  cases hl : lexL s.data.toList with
  | error xa =>
    obtain ⟨x, a⟩ := xa
    have hlx := fun w => lex_no w (by omega) hl
    obtain ⟨hx0, hx1⟩ := lexL_err0 hl
    clear hl
    go_enter Tryd.func4, Tryd.ntmps4
    go_wp2_with (first | (go_at_call 7; refine (awake_any _).mono ?_; rintro e w1 ⟨rfl, hb⟩; have HB := Lib.hid (HB.out.next hb); clear hb) | (go_at_call 8; refine (hlx _).mono ?_; rintro e w1 ⟨rfl, hb⟩; have HB := Lib.hid (HB.out.next hb); clear hb))
    go_ret
    exact ⟨rfl, HB.out.alloc HB.out.size _⟩
  | ok l =>
    have hlx := fun w => lex_yes w (by omega) hl
    have hol := lex_order s.data.toList
    rw [hl] at hol
    have hll := ordL_len _ _ hol.1
    rw [len_toList] at hll
    have hl0 : 0 < l.length := List.length_pos_iff.2 hol.2
    have hl0' : ((l.length : Int) == 0) = false := by rw [beq_eq_false_iff_ne]; omega
    obtain ⟨c, hc⟩ : ∃ c : Nat, (c : Int) = 1 + n % 4 := ⟨(1 + n % 4).toNat, by omega⟩
    have hc4 : c ≤ 4 := by omega
    have HC := Lib.hid hc
    obtain ⟨b, hb⟩ : ∃ b : List UInt8, b = List.replicate c 32 := ⟨_, rfl⟩
    have HBL := Lib.hid hb
    have HLX2 : Hid (∀ u : ByteArray, u.data.toList = blkL s.data.toList b 0 l → ∃ m, All2 l m ∧ ∀ w, Calls Tryd.prog 8 #[.string u] w fun e w' => ∃ A cap, e = .returned (.tuple #[.slice A m.length cap, .agg #[.int .i64 0, .int .i64 0]]) ∧ m.length ≤ cap ∧ TkR w' A m ∧ Bel w.heap.size w w') := by
      refine Lib.hid fun u hu => ?_
      obtain ⟨m, h1, h2⟩ := lex_blank (b := b) hl (by intro d hd; rw [hb] at hd; rw [List.eq_of_mem_replicate hd]; rfl) (by
        rw [len_toList, hb, List.length_replicate]
        have : c * l.length ≤ 4 * 300 := Nat.mul_le_mul hc4 (by omega)
        omega)
      refine ⟨m, h2, fun w => lex_yes (s := u) w ?_ (by rw [hu]; exact h1)⟩
      have h3 := (lexL_inv h1).1
      rw [← hu, len_toList] at h3; omega
    have HBK0 : Hid (blkL s.data.toList b 0 (l.drop 1) = blkL s.data.toList b 0 l) := by
      cases l with
      | nil => simp at hl0
      | cons x r => exact Lib.hid (by rw [blkL, lex_gap0 hl]; rfl)
    have HO0 : Hid (∃ fr, 0 ≤ fr ∧ ordL s.data.toList fr (l.drop 1) = true) := by
      cases l with
      | nil => simp at hl0
      | cons x r =>
        obtain ⟨-, -, -, h4⟩ := ordL_cons hol.1
        split at h4
        · exact Lib.hid ⟨_, Nat.zero_le _, h4.2.2.2⟩
        · exact Lib.hid ⟨_, Nat.zero_le _, h4⟩
    clear hl hol hc hb
    go_enter Tryd.func4, Tryd.ntmps4
    go_wp2_with (first | (go_at_call 7; refine (awake_any _).mono ?_; rintro e w1 ⟨rfl, hb⟩; have HB := Lib.hid (HB.out.next hb); clear hb) | (go_at_call 8; refine (hlx _).mono ?_; rintro e w1 ⟨A, cap, rfl, hcap, ht, hb⟩; have HT := Lib.hid (ht.bel ((Bel.refl _ w1).alloc (Nat.le_refl _) (.cells #[.int .i64 0, .int .i64 0] 26))); have HB := Lib.hid (HB.out.next hb); clear hb ht))
    have HB := Lib.hid (HB.out.alloc HB.out.size (.cells #[.int .i64 0, .int .i64 0] 26))
    generalize w1.alloc (.cells #[.int .i64 0, .int .i64 0] 26) = w2 at HT HB ⊢
    go_loopg [7, 8, 9] (l.length - 1) (fun k u v x wr => ∃ (i fr last : Nat) (t : ByteArray), k = l.length - i ∧ 1 ≤ i ∧ i ≤ l.length ∧ last ≤ fr ∧ last ≤ s.size ∧ t.size ≤ last + 4 * i ∧ u = .string t ∧ v = .int .i64 last ∧ x = .int .i64 i ∧ Hid (t.data.toList ++ blkL s.data.toList b last (l.drop i) = blkL s.data.toList b 0 l) ∧ Hid (ordL s.data.toList fr (l.drop i) = true) ∧ Hid (TkR wr A l) ∧ Hid (Bel w.heap.size w wr))
    case atStart =>
      obtain ⟨fr, h0, h1⟩ := HO0.out
      exact ⟨1, fr, 0, ⟨#[]⟩, by omega, by omega, by omega, h0, by omega, by (show 0 ≤ _); omega, rfl, rfl, rfl, Lib.hid (by simpa using HBK0.out), Lib.hid h1, HT, HB⟩
    case round =>
      clear HT HB HO0 HBK0
      obtain ⟨i, fr, last, t, hgk, hi1, hi, hlf, hls, htz, rfl, rfl, rfl, HBK, HI, HT, HB⟩ := hrel
      have HGK := Lib.hid hgk; clear hgk
      by_cases hlt : i < l.length
      · obtain ⟨bb, off, rfl, hbl, hcc⟩ := HT.out.resolve_left (by intro e; rw [e] at hlt; simp at hlt)
        obtain ⟨x, hx⟩ : ∃ x, l[i]? = some x := ⟨_, List.getElem?_eq_getElem hlt⟩
        obtain ⟨d0, d1, d2, d3, d4⟩ := hcc i x hx
        have hdx : l.drop i = x :: l.drop (i + 1) := by
          rw [List.drop_eq_getElem_cons hlt]; rw [List.getElem?_eq_getElem hlt] at hx; injection hx with hx; rw [hx]
        obtain ⟨o1, o2, o3, o4⟩ := ordL_cons (hdx ▸ HI.out)
        have HI2 : Hid (∃ fr', x.at_ ≤ fr' ∧ ordL s.data.toList fr' (l.drop (i + 1)) = true) := by
          split at o4
          · exact Lib.hid ⟨_, Nat.le_add_right _ _, o4.2.2.2⟩
          · exact Lib.hid ⟨_, Nat.le_add_right _ _, o4⟩
        rw [len_toList] at o2
        have HBK := Lib.hid (hdx ▸ HBK.out)
        rw [blkL] at HBK
        obtain ⟨g, hg⟩ : ∃ g, x.gap = g := ⟨_, rfl⟩
        rw [hg] at d4 HBK
        have HX := Lib.hid hx
        clear hcc hx hdx o3 o4 hg
        cases g with
        | false =>
          go_wp2
          go_roundg (l.length - (i + 1))
          case measure => have := HGK.out; simp; omega
          case rel =>
            obtain ⟨fr', h0, h1⟩ := HI2.out
            exact ⟨i + 1, fr', last, t, rfl, by omega, by omega, by omega, by omega, by omega, rfl, rfl, by simp, Lib.hid (by simpa using HBK.out), Lib.hid h1, HT, HB⟩
        | true =>
          have hla : last ≤ x.at_ := by omega
          go_wp2
          obtain ⟨t1, ht1⟩ : ∃ t1, t ++ s.extract last x.at_ = t1 := ⟨_, rfl⟩
          have HT1 := Lib.hid (show t1.data.toList = t.data.toList ++ (dr s last).take (x.at_ - last) by rw [← ht1, cat_list, ext_list])
          have hz1 : t1.size ≤ x.at_ + 4 * i := by rw [← ht1]; simp; omega
          rw [ht1]
          clear ht1
          go_loopg [7, 10] c (fun kk u v wz => ∃ (j : Nat) (t2 : ByteArray), kk = c - j ∧ j ≤ c ∧ t2.size ≤ t1.size + j ∧ u = .string t2 ∧ v = .int .i64 j ∧ Hid (t2.data.toList = t1.data.toList ++ List.replicate j 32) ∧ Hid (TkR wz (some ⟨bb, off, none⟩) l) ∧ Hid (Bel w.heap.size w wz))
          case atStart => exact ⟨0, t1, by omega, by omega, by omega, rfl, rfl, Lib.hid (by simp), HT, HB⟩
          case round =>
            clear HT HB
            obtain ⟨j, t2, hgj, hj, htz2, rfl, rfl, HT2, HT, HB⟩ := hrel
            have HGJ := Lib.hid hgj; clear hgj
            by_cases hjc : j < c
            · have hjn : (j : Int) < 1 + n % 4 := by have := HC.out; omega
              go_wp2
              go_roundg (c - (j + 1))
              case measure => have := HGJ.out; simp; omega
              case rel => exact ⟨j + 1, t2 ++ ⟨#[32]⟩, rfl, by omega, by (have h1 : (⟨#[32]⟩ : ByteArray).size = 1 := rfl); rw [ByteArray.size_append, h1]; omega, rfl, by simp, Lib.hid (by rw [cat_list, HT2.out, List.append_assoc, List.replicate_succ']), HT, HB⟩
            · have hjn : ¬ (j : Int) < 1 + n % 4 := by have := HC.out; omega
              have HBK2 := Lib.hid (show t2.data.toList ++ blkL s.data.toList b x.at_ (l.drop (i + 1)) = blkL s.data.toList b 0 l by
                rw [← HBK.out, HT2.out, HT1.out, show j = c by omega, ← HBL.out]
                simp only [List.append_assoc, ite_true]; rfl)
              have hb2 : bb < wr.heap.size := by
                obtain ⟨bb', off', he, hbl', _⟩ := HT.out.resolve_left (by intro e; rw [e] at hlt; simp at hlt)
                cases he; exact hbl'
              have d3' : wr.cell? ⟨bb, off + i * 5 + 3, none⟩ = some (.int .i64 x.at_) := by
                obtain ⟨bb', off', he, hbl', hcc⟩ := HT.out.resolve_left (by intro e; rw [e] at hlt; simp at hlt)
                cases he
                exact (hcc i x HX.out).2.2.2.1
              go_wp2
              go_roundg (l.length - (i + 1))
              case measure => have := HGK.out; simp; omega
              case rel =>
                obtain ⟨fr', h0, h1⟩ := HI2.out
                exact ⟨i + 1, fr', x.at_, t2, rfl, by omega, by omega, by omega, by omega, by omega, rfl, rfl, by simp, HBK2, Lib.hid h1, HT, HB⟩
      · obtain ⟨m, hm2, hlm⟩ := HLX2.out (t ++ s.extract last s.size) (by rw [cat_list, ext_drop, ← HBK.out, show l.drop i = [] from List.drop_of_length_le (by omega)]; rfl)
        have HM2 := Lib.hid hm2
        have HLM := Lib.hid hlm
        clear hm2 hlm
        go_upto_region 19 with (go_at_call 8; (with_reducible refine (HLM.out _).mono ?_); rintro e w6 ⟨A3, cap3, rfl, hcap3, ht3, hb⟩; have HB6 := Lib.hid (HB.out.next hb); have HSM := Lib.hid (fun wz (hbz : Bel w6.heap.size w6 wz) => same_any A A3 l m l.length cap cap3 false wz ((HT.out.bel hb).bel hbz) (ht3.bel hbz) rfl (All2_len HM2.out).symm (by omega) (fun i x y hx hy => by obtain ⟨h1, h2, h3⟩ := All2_get HM2.out i x y hx hy; exact ⟨h1, h2, h3, fun e => by cases e⟩)); clear hb ht3)
        rw [← All2_len HM2.out]
        go_wp2_with (go_at_call 10; (with_reducible refine (HSM.out _ bel_lit).mono ?_); rintro e w7 ⟨rfl, hb⟩; have HB7 := Lib.hid ((HB6.out.alloc HB6.out.size _).next hb); clear hb)
        go_ret
        exact ⟨rfl, HB7.out⟩

end Go.Proofs.YtihfhohdnjbahaaDoor
