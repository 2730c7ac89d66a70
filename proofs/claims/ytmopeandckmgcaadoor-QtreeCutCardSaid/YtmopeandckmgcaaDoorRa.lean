/- qtree: Parse, all of it. -/
import Derived.Test.YtmopeandckmgcaaDoorQz
import Derived.Test.YtmopeandckmgcaaDoorM8
namespace Go.Proofs.YtmopeandckmgcaaDoor
open Go.RowKit

/-- Lex, for the reader: what is left to read, and the fault. -/
theorem lexq_any (s : ByteArray) (w : World) (hs : s.size ≤ 1000000) :
    Calls Tryd.prog 13 #[.string s] w (LexQ s.data.toList w) := by
  refine (lex_any s w hs).mono ?_
  intro e w' h
  unfold LexP at h
  unfold LexQ stOf
  have ho := lex_order s.data.toList
  cases hl : lexL s.data.toList with
  | error x =>
    obtain ⟨x, a⟩ := x
    rw [hl] at h
    exact ⟨none, 0, h.1, ⟨Nat.le_refl _, by omega, Nat.zero_le _⟩, .inl rfl, h.2⟩
  | ok toks =>
    rw [hl] at h ho
    obtain ⟨⟨v, rfl, hv⟩, hb⟩ := h
    have hlen : toks.length ≤ 1000000 := by
      have h1 := ordL_len toks 0 ho.1
      rw [len_toList] at h1
      omega
    obtain ⟨A, cap, e1, hc, ht⟩ := tok_own hv rfl
    have hcap : cap ≤ 9223372036854775807 := by
      rcases hv.2 with ⟨e2, _⟩ | ⟨gg, cap', cur, e2, _, _, _, hm, _⟩
      · rw [e1] at e2
        have := (Value.slice.inj e2).2.2
        omega
      · rw [e1] at e2
        have := (Value.slice.inj e2).2.2
        unfold maxLen at hm
        omega
    subst e1
    exact ⟨A, cap, rfl, ⟨hc, hcap, hlen⟩, ht, hb⟩
theorem parse_any (s : ByteArray) (w : World) (hs : s.size ≤ 1000000) : Calls Tryd.prog 9 #[.string s] w (ParseP s.data.toList w) :=
  parse_of s w fun w => lexq_any s w hs

end Go.Proofs.YtmopeandckmgcaaDoor
