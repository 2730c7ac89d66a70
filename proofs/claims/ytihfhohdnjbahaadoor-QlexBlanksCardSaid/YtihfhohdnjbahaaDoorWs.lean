/- law16: QlexOrder, walked. -/
import Derived.Test.YtihfhohdnjbahaaDoorWr
import Derived.Deep.CutBlock
import Derived.Deep.LoopGhost
namespace Go.Proofs.YtihfhohdnjbahaaDoor
open Go.RowKit

theorem lexF_err0 : ∀ (f a : Nat) (u : List UInt8) (e : Int × Nat), lexF f a u = .error e → (e.1 == 0) = false ∧ (e.1 != 0) = true
  | 0, _, _, _, h => by simp [lexF] at h
  | f + 1, a, u, e, h => by
    rw [lexF] at h
    by_cases h1 : u = []
    · rw [if_pos h1] at h; cases h
    · rw [if_neg h1] at h
      by_cases h2 : 0 < bkN u ∧ (a = 0 ∨ u.drop (bkN u) = [])
      · rw [if_pos h2] at h; cases h; exact ⟨rfl, rfl⟩
      · rw [if_neg h2] at h
        cases ht : tokT (u.drop (bkN u)) with
        | error x => rw [ht] at h; cases h; exact tokT_err ht
        | ok kt =>
          obtain ⟨k, t, v, n⟩ := kt
          rw [ht] at h
          simp only at h
          cases hf : lexF f (a + bkN u + n) ((u.drop (bkN u)).drop n) with
          | error x => rw [hf] at h; cases h; exact lexF_err0 f _ _ _ hf
          | ok r => rw [hf] at h; cases h
theorem lexL_err0 {l : List UInt8} {x : Int} {a : Nat} (h : lexL l = .error (x, a)) : (x == 0) = false ∧ (x != 0) = true := by
  unfold lexL at h
  split at h
  · cases h; exact ⟨rfl, rfl⟩
  · split at h
    · rename_i e he; cases h; exact lexF_err0 _ _ _ _ he
    · cases h; exact ⟨rfl, rfl⟩
    · cases h
/-- One token in order. -/
theorem ordL_cons {l : List UInt8} {from_ : Nat} {x : TokD} {r : List TokD} (h : ordL l from_ (x :: r) = true) :
    from_ ≤ x.at_ ∧ x.at_ < l.length ∧ (x.gap = true → x.at_ ≠ from_) ∧
    (if x.kind = 1 ∨ x.kind = 2 then 0 < x.s.length ∧ x.s.length ≤ l.length - x.at_ ∧ (l.drop x.at_).take x.s.length = x.s ∧ ordL l (x.at_ + x.s.length) r = true else ordL l (x.at_ + 1) r = true) := by
  rw [ordL] at h
  by_cases h1 : x.at_ < from_ ∨ l.length ≤ x.at_ ∨ (x.gap = true ∧ x.at_ = from_)
  · rw [if_pos h1] at h; cases h
  · rw [if_neg h1] at h
    refine ⟨by omega, by omega, fun hg he => h1 (.inr (.inr ⟨hg, he⟩)), ?_⟩
    by_cases h2 : x.kind = 1 ∨ x.kind = 2
    · rw [if_pos h2] at h ⊢
      by_cases h3 : x.s.length = 0 ∨ l.length - x.at_ < x.s.length ∨ (l.drop x.at_).take x.s.length ≠ x.s
      · rw [if_pos h3] at h; cases h
      · rw [if_neg h3] at h
        exact ⟨by omega, by omega, Classical.byContradiction fun hc => h3 (.inr (.inr hc)), h⟩
    · rw [if_neg h2] at h ⊢; exact h
theorem ordL_len {l : List UInt8} : ∀ (r : List TokD) (fr : Nat), ordL l fr r = true → r.length ≤ l.length - fr
  | [], _, _ => by simp
  | x :: r, fr, h => by
    obtain ⟨h1, h2, _, h3⟩ := ordL_cons h
    split at h3
    · have := ordL_len r _ h3.2.2.2; simp; omega
    · have := ordL_len r _ h3; simp; omega
theorem ext_mid (s : ByteArray) (a n : Nat) : (s.extract a (a + n)).data.toList = (dr s a).take n := by
  simp [ByteArray.data_extract, List.extract_eq_take_drop, dr]

set_option maxRecDepth 100000 in
set_option maxHeartbeats 4000000 in
theorem orderLaw_any (s : ByteArray) (w : World) (hs : s.size ≤ maxLen) :
    Calls Tryd.prog 5 #[.string s] w fun e w' => e = .returned (.bool true) ∧ Bel w.heap.size w w' := by
  have HB := Lib.hid (Bel.refl w.heap.size w)
  by_cases hlen : 400 < s.size
  · unfold maxLen at hs
    go_enter Tryd.func5, Tryd.ntmps5
    go_wp2_with (go_at_call 7; refine (awake_any _).mono ?_; rintro e w1 ⟨rfl, hb⟩; have HB := Lib.hid (HB.out.next hb); clear hb)
    go_ret
    exact ⟨rfl, HB.out⟩
  · have hlen' : s.size ≤ 400 := by omega
    have HO := Lib.hid (lex_order s.data.toList)
    cases hl : lexL s.data.toList with
    | error xa =>
      obtain ⟨x, a⟩ := xa
      have hlx := fun w => lex_no w (by omega) hl
      obtain ⟨hx0, hx1⟩ := lexL_err0 hl
      have hal : a ≤ s.size := by have := HO.out; rw [hl] at this; rw [← len_toList]; exact this
      clear hl HO
      go_enter Tryd.func5, Tryd.ntmps5
      go_wp2_with (first | (go_at_call 7; refine (awake_any _).mono ?_; rintro e w1 ⟨rfl, hb⟩; have HB := Lib.hid (HB.out.next hb); clear hb) | (go_at_call 8; refine (hlx _).mono ?_; rintro e w1 ⟨rfl, hb⟩; have HB := Lib.hid (HB.out.next hb); clear hb))
      go_ret
      exact ⟨rfl, HB.out.alloc HB.out.size _⟩
    | ok toks =>
      have hlx := fun w => lex_yes w (by omega) hl
      have HO1 := Lib.hid (show ordL s.data.toList 0 toks = true ∧ toks ≠ [] by have := HO.out; rw [hl] at this; exact this)
      have htl : 0 < toks.length := by
        cases toks with
        | nil => exact absurd rfl HO1.out.2
        | cons => simp
      have htb := ordL_len _ _ HO1.out.1
      rw [len_toList] at htb
      clear hl HO
      go_enter Tryd.func5, Tryd.ntmps5
      go_wp2_with (first | (go_at_call 7; refine (awake_any _).mono ?_; rintro e w1 ⟨rfl, hb⟩; have HB := Lib.hid (HB.out.next hb); clear hb) | (go_at_call 8; refine (hlx _).mono ?_; rintro e w1 ⟨A, cap, rfl, hcap, ht, hb⟩; have HT := Lib.hid (ht.bel ((Bel.refl _ w1).alloc (Nat.le_refl _) (.cells #[.int .i64 0, .int .i64 0] 26))); have HB := Lib.hid (HB.out.next hb); clear hb ht))
      go_loopg [5, 6, 7, 8] toks.length (fun k u v _ _ wr => ∃ (i fr : Nat), k = toks.length - i ∧ i ≤ toks.length ∧ fr ≤ 500 ∧ u = .int .i64 fr ∧ v = .int .i64 i ∧ Hid (ordL s.data.toList fr (toks.drop i) = true) ∧ Hid (TkR wr A toks) ∧ Hid (Bel w.heap.size w wr))
      case atStart => exact ⟨0, 0, by omega, by omega, by omega, rfl, rfl, Lib.hid HO1.out.1, HT, Lib.hid (HB.out.alloc HB.out.size _)⟩
      case round =>
        clear HT HB
        obtain ⟨i, fr, hgk, hi, hfr, rfl, rfl, HI, HT, HB⟩ := hrel
        have HGK := Lib.hid hgk; clear hgk
        by_cases hlt : i < toks.length
        · obtain ⟨b, off, rfl, hbl, hc⟩ := HT.out.resolve_left (by intro e; rw [e] at hlt; simp at hlt)
          obtain ⟨x, hx⟩ : ∃ x, toks[i]? = some x := ⟨_, List.getElem?_eq_getElem hlt⟩
          obtain ⟨d0, d1, d2, d3, d4⟩ := hc i x hx
          have hdx : toks.drop i = x :: toks.drop (i + 1) := by
            rw [List.drop_eq_getElem_cons hlt]; rw [List.getElem?_eq_getElem hlt] at hx; injection hx with hx; rw [hx]
          obtain ⟨o1, o2, o3, o4⟩ := ordL_cons (hdx ▸ HI.out)
          rw [len_toList] at o2 o4
          have HSZ := Lib.hid (show (bs x.s).size = x.s.length by rw [← len_toList, bs_list])
          clear hc hx hdx
          have hat : x.at_ < s.size := o2
          have HN := Lib.hid (show (fr : Int) ≤ (x.at_ : Int) by omega)
          obtain ⟨g, hg⟩ : ∃ g, x.gap = g := ⟨_, rfl⟩
          rw [hg] at d4 o3
          have hgf : g = false ∨ (g = true ∧ (((x.at_ : Nat) : Int) == ((fr : Nat) : Int)) = false) := by
            cases g with
            | false => exact .inl rfl
            | true => exact .inr ⟨rfl, by have := o3 rfl; rw [beq_eq_false_iff_ne]; omega⟩
          clear o3 hg
          by_cases hk : x.kind = 1 ∨ x.kind = 2
          · rw [if_pos hk] at o4
            obtain ⟨q1, q2, q3, q4⟩ := o4
            have hk' : ((x.kind : Int) == 1) = true ∨ (((x.kind : Int) == 1) = false ∧ ((x.kind : Int) == 2) = true) := by
              rcases hk with h | h <;> simp [h]
            clear hk
            obtain ⟨m, hm⟩ : ∃ m, (bs x.s).size = m := ⟨_, rfl⟩
            rw [← HSZ.out, hm] at q1 q2 q3 q4
            have hst : ((s.extract x.at_ (x.at_ + m)).toList == (bs x.s).toList) = true := str_t (bs_of (by rw [ext_mid]; exact q3))
            have HQ4 := Lib.hid q4
            clear q3 q4
            have hm0 : ((m : Int) == 0) = false := by simp; omega
            have hm1 : decide (((m : Nat) : Int) > (s.size : Int) - ((x.at_ : Nat) : Int)) = false := by simp; omega
            have hnst : (!((s.extract x.at_ (x.at_ + m)).toList == (bs x.s).toList)) = false := by rw [hst]; rfl
            rcases hgf with rfl | ⟨rfl, hgf⟩ <;> rcases hk' with hk' | ⟨hk0, hk'⟩
            all_goals
              go_wp2
              go_quiet (fail)
              go_wp2
              go_roundg (toks.length - (i + 1))
              case measure => have := HGK.out; simp; omega
              case rel => exact ⟨i + 1, x.at_ + m, rfl, by omega, by omega, by simp, by simp, HQ4, by exact Lib.hid (HT.out.bel ((Bel.refl _ _).drewN _)), by exact Lib.hid (HB.out.drewN _)⟩
          · rw [if_neg hk] at o4
            have hk1 : ((x.kind : Int) == 1) = false ∧ ((x.kind : Int) == 2) = false := by
              constructor <;> (rw [beq_eq_false_iff_ne]; intro e; exact hk (by omega))
            obtain ⟨hk1, hk2⟩ := hk1
            have HQ4 := Lib.hid o4
            clear o4 hk
            rcases hgf with rfl | ⟨rfl, hgf⟩
            all_goals
              go_wp2
              go_roundg (toks.length - (i + 1))
              case measure => have := HGK.out; simp; omega
              case rel => exact ⟨i + 1, x.at_ + 1, rfl, by omega, by omega, by simp, by simp, HQ4, HT, HB⟩
        · go_wp2
          go_ret
          exact ⟨rfl, HB.out⟩

end Go.Proofs.YtihfhohdnjbahaaDoor
