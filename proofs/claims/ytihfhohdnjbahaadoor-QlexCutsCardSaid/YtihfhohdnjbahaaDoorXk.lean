/- law16: QlexCuts, walked. -/
import Derived.Test.YtihfhohdnjbahaaDoorWr
import Derived.Test.YtihfhohdnjbahaaDoorWt
import Derived.Test.YtihfhohdnjbahaaDoorXj
namespace Go.Proofs.YtihfhohdnjbahaaDoor
open Go.RowKit

/-- The reference's Lex, for callers: the error, or the tokens. -/
theorem rlex_no {s : ByteArray} {x : Int} {a : Nat} (w : World) (hs : s.size ≤ 1000000) (h : lexL s.data.toList = .error (x, a)) :
    Calls Tryd.prog 9 #[.string s] w fun e w' => e = .returned (.tuple #[.slice none 0 0, .agg #[.int .i64 x, .int .i64 ((a : Nat) : Int)]]) ∧ Bel w.heap.size w w' := by
  have := rlex_any s w hs
  unfold LexP at this
  rw [h] at this; exact this
theorem rlex_yes {s : ByteArray} {toks : List TokD} (w : World) (hs : s.size ≤ 1000000) (h : lexL s.data.toList = .ok toks) :
    Calls Tryd.prog 9 #[.string s] w fun e w' => ∃ A cap, e = .returned (.tuple #[.slice A toks.length cap, .agg #[.int .i64 0, .int .i64 0]]) ∧ toks.length ≤ cap ∧ TkR w' A toks ∧ Bel w.heap.size w w' := by
  have := rlex_any s w hs
  unfold LexP at this
  rw [h] at this
  refine this.mono ?_
  rintro e w' ⟨⟨v, rfl, hv⟩, hb⟩
  obtain ⟨A, cap, rfl, hc, ht⟩ := tok_own hv rfl
  exact ⟨A, cap, rfl, hc, ht, hb⟩
theorem past2' {w1 w2 : World} {a b : Value} (hb : Bel (w1.alloc (.cells #[a, b] 26)).heap.size (w1.alloc (.cells #[a, b] 26)) w2) : w1.heap.size < w2.heap.size ∧ w2.cell? ⟨w1.heap.size, 0, none⟩ = some a ∧ w2.cell? ⟨w1.heap.size, 1, none⟩ = some b := by
  have h1 := hb.size
  have h2 := (Blk.new w1 26 #[a, b]).lt
  exact ⟨by omega, (hb.cell (p := ⟨w1.heap.size, 0, none⟩) h2).trans ((Blk.new w1 26 #[a, b]).cell 0), (hb.cell (p := ⟨w1.heap.size, 1, none⟩) h2).trans ((Blk.new w1 26 #[a, b]).cell 1)⟩

set_option maxRecDepth 100000 in
set_option maxHeartbeats 4000000 in
theorem cutsLaw_any (s : ByteArray) (w : World) (hs : s.size ≤ maxLen) :
    Calls Tryd.prog 3 #[.string s] w fun e w' => e = .returned (.bool true) ∧ Bel w.heap.size w w' := by
  have HB := Lib.hid (Bel.refl w.heap.size w)
  by_cases hlen : 400 < s.size
  · unfold maxLen at hs
    go_enter Tryd.func3, Tryd.ntmps3
    go_wp2_with (go_at_call 7; refine (awake_any _).mono ?_; rintro e w1 ⟨rfl, hb⟩; have HB := Lib.hid (HB.out.next hb); clear hb)
    go_ret
    exact ⟨rfl, HB.out⟩
  have hlen' : s.size ≤ 400 := by omega
  cases hl : lexL s.data.toList with
  | error xa =>
    obtain ⟨x, a⟩ := xa
    have hlx := fun w => lex_no w (by omega) hl
    have hly := fun w => rlex_no w (by omega) hl
    have hsm := fun wz => same_any none none [] [] 0 0 0 true wz (.inl rfl) (.inl rfl) rfl rfl (by omega) (fun i x y hx _ => by simp at hx)
    clear hl
    go_enter Tryd.func3, Tryd.ntmps3
    go_wp2_with (first
      | (go_at_call 7; refine (awake_any _).mono ?_; rintro e w1 ⟨rfl, hb⟩; have HB := Lib.hid (HB.out.next hb); clear hb)
      | (go_at_call 8; refine (hlx _).mono ?_; rintro e w1 ⟨rfl, hb⟩; have HB := Lib.hid (HB.out.next hb); clear hb)
      | (go_at_call 9; refine (hly _).mono ?_; rintro e w2 ⟨rfl, hb⟩; have HB2 := Lib.hid ((HB.out.alloc HB.out.size _).next hb); obtain ⟨hl12, c0, c1⟩ := past2' hb; clear hb)
      | (go_at_call 10; (with_reducible refine (hsm _).mono ?_); rintro e w3 ⟨rfl, hb⟩; have HB3 := Lib.hid ((HB2.out.alloc HB2.out.size _).next hb); clear hb))
    go_ret
    exact ⟨rfl, HB3.out⟩
  | ok l =>
    have hlx := fun w => lex_yes w (by omega) hl
    have hly := fun w => rlex_yes w (by omega) hl
    have hol := lex_order s.data.toList
    rw [hl] at hol
    have hll := ordL_len _ _ hol.1
    rw [len_toList] at hll
    clear hl hol
    go_enter Tryd.func3, Tryd.ntmps3
    go_wp2_with (first
      | (go_at_call 7; refine (awake_any _).mono ?_; rintro e w1 ⟨rfl, hb⟩; have HB := Lib.hid (HB.out.next hb); clear hb)
      | (go_at_call 8; refine (hlx _).mono ?_; rintro e w1 ⟨A1, cap1, rfl, hcap1, ht1, hb⟩; have HB := Lib.hid (HB.out.next hb); have HT1 := Lib.hid ht1; clear hb ht1)
      | (go_at_call 9; refine (hly _).mono ?_; rintro e w2 ⟨A2, cap2, rfl, hcap2, ht2, hb⟩; have HB2 := Lib.hid ((HB.out.alloc HB.out.size _).next hb); obtain ⟨hl12, c0, c1⟩ := past2' hb; have HSM := Lib.hid (fun wz (hbz : Bel w2.heap.size w2 wz) => same_any A1 A2 l l l.length cap1 cap2 true wz ((HT1.out.bel (((Bel.refl _ _).alloc (Nat.le_refl _) _).trans (hb.mono (by simp)))).bel hbz) (ht2.bel hbz) rfl rfl (by omega) (fun i x y hx hy => by rw [hx] at hy; cases hy; exact ⟨rfl, rfl, rfl, fun _ => ⟨rfl, rfl⟩⟩)); clear hb ht2)
      | (go_at_call 10; (with_reducible refine (HSM.out _ bel_lit).mono ?_); rintro e w3 ⟨rfl, hb⟩; have HB3 := Lib.hid ((HB2.out.alloc HB2.out.size _).next hb); clear hb))
    go_ret
    exact ⟨rfl, HB3.out⟩

end Go.Proofs.YtihfhohdnjbahaaDoor
