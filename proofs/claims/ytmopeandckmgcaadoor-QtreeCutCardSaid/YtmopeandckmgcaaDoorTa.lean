/- law17: Parse for callers; awake. -/
import Derived.Test.YtmopeandckmgcaaDoorRa
import Derived.Test.YtmopeandckmgcaaDoorQs
namespace Go.Proofs.YtmopeandckmgcaaDoor
open Go.RowKit

theorem parse_err {s : ByteArray} {x a : Int} (w : World) (hs : s.size ≤ 1000000) (h : parseT true s.data.toList = .error (x, a)) :
    Calls Tryd.prog 9 #[.string s] w fun e w' => e = .returned (.tuple #[.agg #[.bool false, .slice none 0 0], .agg #[.int .i64 x, .int .i64 a]]) ∧ Bel w.heap.size w w' := by
  have := parse_any s w hs
  unfold ParseP at this
  rw [h] at this; exact this
theorem parse_ok {s : ByteArray} {p : PathT} (w : World) (hs : s.size ≤ 1000000) (h : parseT true s.data.toList = .ok p) :
    Calls Tryd.prog 9 #[.string s] w fun e w' => ∃ m A c, e = .returned (.tuple #[.agg #[.bool p.abs, .slice A p.segs.length c], .agg #[.int .i64 0, .int .i64 0]]) ∧ SegsG (Fr w) (ExR (Fr w) m w') w' (.slice A p.segs.length c) p.segs ∧ Bel w.heap.size w w' := by
  have := parse_any s w hs
  unfold ParseP at this
  rw [h] at this
  refine this.mono ?_
  rintro e w' ⟨⟨m, A, c, rfl, hs⟩, hb⟩
  exact ⟨m, A, c, rfl, hs, hb⟩
theorem aw_parse : parseT true (⟨#[36, 46, 97]⟩ : ByteArray).data.toList = .ok ⟨true, [⟨false, [⟨0, [97], 0, 0, 0, 0, false, false, none⟩]⟩]⟩ := by kernel_rfl

set_option maxRecDepth 100000 in
set_option maxHeartbeats 1000000 in
theorem awake_any (w : World) :
    Calls Tryd.prog 7 #[] w fun e w' => e = .returned (.bool true) ∧ Bel w.heap.size w w' := by
  have HL := Lib.hid (parse_ok w (by decide) aw_parse)
  go_enter Tryd.func7, Tryd.ntmps7
  go_wp2_with (go_at_call 9; refine HL.out.mono ?_; rintro e w1 ⟨m, A, c, rfl, hsg, hb⟩; obtain ⟨b, off, A2, c2, rfl, hlt, d0, d1, hrow⟩ := SegsG.at_ hsg (k := 0) rfl; obtain ⟨A', cap, e1, -, h3⟩ := hrow; obtain ⟨b2, o2, rfl, -, hlt2, hc⟩ := h3.resolve_left (by simp); obtain ⟨cs, -, hcs, pv, rfl, -⟩ := hc 0 _ rfl; have k1 : w1.cell? ⟨b2, o2 + 1, none⟩ = some (.string ⟨#[97]⟩) := (by have := hcs 1 _ rfl; rw [show o2 + 0 * 9 + 1 = o2 + 1 by omega] at this; exact this); obtain rfl : A2 = some ⟨b2, o2, none⟩ := (by simpa using (Value.slice.inj e1).1); have g1 : w1.cell? ⟨b, off + 1, none⟩ = some (.slice (some ⟨b2, o2, none⟩) 1 c2) := (by rw [show off + 0 * 2 + 1 = off + 1 by omega] at d1; exact d1); have HB := Lib.hid hb; clear hb hsg h3 hc hcs e1 d0 d1)
  go_ret
  exact ⟨rfl, (HB.out.alloc HB.out.size _).alloc (by have := HB.out.size; simp; omega) _⟩

end Go.Proofs.YtmopeandckmgcaaDoor
