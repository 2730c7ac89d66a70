/- awake; the law MarksStrings walked. -/
import Derived.Test.YtppeahlnpidheaaLa
import Derived.Test.YtppeahlnpidheaaJs
import Derived.Test.YtppeahlnpidheaaJe
namespace Go.Proofs.Ytppeahlnpidheaa
open Go.RowKit

/-- The marks' places, as numbers. -/
def marksI (l : List UInt8) : List Int := (mk 0 l 0).map (fun x => (x.1 : Int))
def marksB (l : List UInt8) : List Bool := parB (mk 0 l 0)
theorem places_any (s : ByteArray) (hs : s.size * 8 ≤ 140737488355328) (w : World) :
    Calls Try.prog 9 #[.string s] w fun e w' => ∃ A c, e = .returned (.slice A (marksI s.data.toList).length c) ∧ Rd w' A ((marksI s.data.toList).map (Value.int .i64)) ∧ Bel w.heap.size w w' := by
  refine (callsIn_wide.1 (places_in 3 (by omega) s hs w)).mono ?_
  rintro e w' ⟨v, rfl, hown, _, hb⟩
  obtain ⟨A, c, rfl, hl, hrd, _⟩ := Rd.of_own hown
  refine ⟨A, c, by rw [hl, marksI, List.length_map], ?_, Bel.of hb⟩
  rw [marksI, List.map_map]; exact hrd
theorem parens_any (s : ByteArray) (hs : s.size * 2 ≤ 140737488355328) (w : World) :
    Calls Try.prog 15 #[.string s] w fun e w' => ∃ A c, e = .returned (.slice A (marksB s.data.toList).length c) ∧ Rd w' A ((marksB s.data.toList).map Value.bool) ∧ Bel w.heap.size w w' := by
  refine (callsIn_wide.1 (parens_in 3 (by omega) s hs w)).mono ?_
  rintro e w' ⟨v, rfl, hown, _, hb⟩
  obtain ⟨A, c, rfl, hl, hrd, _⟩ := Rd.of_own hown
  exact ⟨A, c, by rw [hl]; rfl, hrd, Bel.of hb⟩

theorem mk_awake : marksI [91, 49, 93] = [0, 2] := by decide

set_option maxRecDepth 100000 in
set_option maxHeartbeats 1000000 in
theorem awake_any (w : World) :
    Calls Try.prog 7 #[] w fun e w' => e = .returned (.bool true) ∧ Bel w.heap.size w w' := by
  have hp := fun w => places_any ⟨#[91, 49, 93]⟩ (by decide) w
  simp only [show (⟨#[91, 49, 93]⟩ : ByteArray).data.toList = [91, 49, 93] from rfl, mk_awake, List.map_cons, List.map_nil, List.length_cons, List.length_nil, Nat.zero_add, Nat.reduceAdd] at hp
  go_enter Try.func7, Try.ntmps7
  have hk := fun w : World => marksIs_any 44 w
  have he : isMark 44 = true := by decide
  rw [he] at hk
  go_wp2_with (first
    | (go_at_call 9; refine (hp _).mono ?_; rintro e w1 ⟨A, c, rfl, hrd, hb⟩; obtain ⟨b, off, rfl, hlt, hc⟩ := Rd.cons hrd; have h1 := hc 1 _ rfl; have HB := Lib.hid hb; clear hc hb hrd)
    | (go_at_call 11; refine (hk _).mono ?_; rintro e w' ⟨rfl, rfl⟩))
  go_ret
  exact ⟨rfl, HB.out⟩

end Go.Proofs.Ytppeahlnpidheaa
