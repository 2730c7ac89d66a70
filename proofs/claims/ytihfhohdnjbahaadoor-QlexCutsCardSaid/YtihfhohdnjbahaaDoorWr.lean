/- law16: awake; tokens in memory. -/
import Derived.Test.YtihfhohdnjbahaaDoorWq
namespace Go.Proofs.YtihfhohdnjbahaaDoor
open Go.RowKit

/-- Lex, for callers: the error, or the tokens. -/
theorem lex_no {s : ByteArray} {x : Int} {a : Nat} (w : World) (hs : s.size ≤ 1000000) (h : lexL s.data.toList = .error (x, a)) :
    Calls Tryd.prog 8 #[.string s] w fun e w' => e = .returned (.tuple #[.slice none 0 0, .agg #[.int .i64 x, .int .i64 ((a : Nat) : Int)]]) ∧ Bel w.heap.size w w' := by
  have := lex_any s w hs
  unfold LexP at this
  rw [h] at this; exact this
theorem lex_yes {s : ByteArray} {toks : List TokD} (w : World) (hs : s.size ≤ 1000000) (h : lexL s.data.toList = .ok toks) :
    Calls Tryd.prog 8 #[.string s] w fun e w' => ∃ A cap, e = .returned (.tuple #[.slice A toks.length cap, .agg #[.int .i64 0, .int .i64 0]]) ∧ toks.length ≤ cap ∧ TkR w' A toks ∧ Bel w.heap.size w w' := by
  have := lex_any s w hs
  unfold LexP at this
  rw [h] at this
  refine this.mono ?_
  rintro e w' ⟨⟨v, rfl, hv⟩, hb⟩
  obtain ⟨A, cap, rfl, hc, ht⟩ := tok_own hv rfl
  exact ⟨A, cap, rfl, hc, ht, hb⟩
theorem aw_lex : lexL (⟨#[36, 46, 97]⟩ : ByteArray).data.toList = .ok [⟨1, [36], 0, 0, false⟩, ⟨1, [46], 0, 1, false⟩, ⟨2, [97], 0, 2, false⟩] := by rfl

set_option maxRecDepth 100000 in
set_option maxHeartbeats 1000000 in
theorem awake_any (w : World) :
    Calls Tryd.prog 7 #[] w fun e w' => e = .returned (.bool true) ∧ Bel w.heap.size w w' := by
  have hl := fun w => lex_yes w (by decide) aw_lex
  go_enter Tryd.func7, Tryd.ntmps7
  go_wp2_with (go_at_call 8; refine (hl _).mono ?_; rintro e w1 ⟨A, cap, rfl, hcap, ht, hb⟩; obtain ⟨b, off, rfl, hlt, hc⟩ := ht.resolve_left (by simp); have c2 : w1.cell? ⟨b, off + 10 + 1, none⟩ = some (.string ⟨#[97]⟩) := (hc 2 _ rfl).2.1; have HB := Lib.hid hb; clear hb hc ht)
  go_ret
  exact ⟨rfl, HB.out.alloc HB.out.size _⟩

end Go.Proofs.YtihfhohdnjbahaaDoor
