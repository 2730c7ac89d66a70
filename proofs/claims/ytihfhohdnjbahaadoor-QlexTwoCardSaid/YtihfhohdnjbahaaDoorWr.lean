/- law16: awake; tokens in memory. -/
import Derived.Test.YtihfhohdnjbahaaDoorWq
namespace Go.Proofs.YtihfhohdnjbahaaDoor
open Go.RowKit

/-- A slice of tokens, cell by cell. -/
def TkR (w : World) (A : Option Addr) (toks : List TokD) : Prop :=
  toks = [] ∨ ∃ b off, A = some ⟨b, off, none⟩ ∧ b < w.heap.size ∧ ∀ (i : Nat) (x : TokD), toks[i]? = some x → w.cell? ⟨b, off + i * 5, none⟩ = some (.int .i64 x.kind) ∧ w.cell? ⟨b, off + i * 5 + 1, none⟩ = some (.string (bs x.s)) ∧ w.cell? ⟨b, off + i * 5 + 2, none⟩ = some (.int .i64 x.n) ∧ w.cell? ⟨b, off + i * 5 + 3, none⟩ = some (.int .i64 (x.at_ : Nat)) ∧ w.cell? ⟨b, off + i * 5 + 4, none⟩ = some (.bool x.gap)
theorem tok_own {w : World} {base n : Nat} {e : TypeId} {v : Value} {l : List TokD} (h : w.ownsRow base e 5 v n (l.flatMap tokC)) (hn : n = l.length) : ∃ A cap, v = .slice A l.length cap ∧ l.length ≤ cap ∧ TkR w A l := by
  obtain ⟨A, cap, h1, h2, h3⟩ := own_flat tokC 5 tokC_len w base n e v l h hn
  refine ⟨A, cap, h1, h2, h3.imp id ?_⟩
  rintro ⟨b, off, e, _, hb, hc⟩
  exact ⟨b, off, e, hb, fun i x hx => ⟨hc i x hx 0 _ (by omega) rfl, hc i x hx 1 _ (by omega) rfl, hc i x hx 2 _ (by omega) rfl, hc i x hx 3 _ (by omega) rfl, hc i x hx 4 _ (by omega) rfl⟩⟩
theorem TkR.bel {w w2 : World} {A : Option Addr} {toks : List TokD} (h : TkR w A toks) (hb : Bel w.heap.size w w2) : TkR w2 A toks := by
  refine h.imp id ?_
  rintro ⟨b, off, e, hlt, hc⟩
  refine ⟨b, off, e, Nat.lt_of_lt_of_le hlt hb.size, fun i x hx => ?_⟩
  obtain ⟨h0, h1, h2, h3, h4⟩ := hc i x hx
  exact ⟨(hb.cell (p := ⟨b, _, none⟩) hlt).trans h0, (hb.cell (p := ⟨b, _, none⟩) hlt).trans h1, (hb.cell (p := ⟨b, _, none⟩) hlt).trans h2, (hb.cell (p := ⟨b, _, none⟩) hlt).trans h3, (hb.cell (p := ⟨b, _, none⟩) hlt).trans h4⟩
/-- Lex, for callers: the error, or the tokens. -/
theorem lex_no {s : ByteArray} {x : Int} {a : Nat} (w : World) (hs : s.size ≤ 1000000) (h : lexL s.data.toList = .error (x, a)) :
    Calls Tryd.prog 8 #[.string s] w fun e w' => e = .returned (.tuple #[.slice none 0 0, .agg #[.int .i64 x, .int .i64 ((a : Nat) : Int)]]) ∧ Bel w.heap.size w w' := by
  have := lex_any s w hs
  unfold LexP at this
  rw [h] at this; exact this
theorem lex_yes {s : ByteArray} {toks : List TokD} (w : World) (hs : s.size ≤ 1000000) (h : lexL s.data.toList = .ok toks) :
    Calls Tryd.prog 8 #[.string s] w fun e w' => ∃ A cap, e = .returned (.tuple #[.slice A toks.length cap, .agg #[.int .i64 0, .int .i64 0]]) ∧ toks.length ≤ cap ∧ TkR w' A toks ∧ Bel w.heap.size w w' := by
  have := lex_any s w hs
  unfold LexP at this
  rw [h] at this
  refine this.mono ?_
  rintro e w' ⟨⟨v, rfl, hv⟩, hb⟩
  obtain ⟨A, cap, rfl, hc, ht⟩ := tok_own hv rfl
  exact ⟨A, cap, rfl, hc, ht, hb⟩
theorem aw_lex : lexL (⟨#[36, 46, 97]⟩ : ByteArray).data.toList = .ok [⟨1, [36], 0, 0, false⟩, ⟨1, [46], 0, 1, false⟩, ⟨2, [97], 0, 2, false⟩] := by rfl

set_option maxRecDepth 100000 in
set_option maxHeartbeats 1000000 in
theorem awake_any (w : World) :
    Calls Tryd.prog 7 #[] w fun e w' => e = .returned (.bool true) ∧ Bel w.heap.size w w' := by
  have hl := fun w => lex_yes w (by decide) aw_lex
  go_enter Tryd.func7, Tryd.ntmps7
  go_wp2_with (go_at_call 8; refine (hl _).mono ?_; rintro e w1 ⟨A, cap, rfl, hcap, ht, hb⟩; obtain ⟨b, off, rfl, hlt, hc⟩ := ht.resolve_left (by simp); have c2 : w1.cell? ⟨b, off + 10 + 1, none⟩ = some (.string ⟨#[97]⟩) := (hc 2 _ rfl).2.1; have HB := Lib.hid hb; clear hb hc ht)
  go_ret
  exact ⟨rfl, HB.out.alloc HB.out.size _⟩

end Go.Proofs.YtihfhohdnjbahaaDoor
