/- verify: meet (a closure of instructions). -/
import Derived.Test.YthlcbjjeklkmfaaVi
namespace Go.Proofs.Ythlcbjjeklkmfaa
open Go.RowKit

def ints (hs : List Int) : Array Value := (hs.map (Value.int .i64)).toArray
theorem ints_get (hs : List Int) (i : Nat) (v : Int) (h : hs[i]? = some v) : (ints hs)[i]? = some (.int .i64 v) := by unfold ints; simp [h]
theorem ints_set (hs : List Int) (i : Nat) (v : Int) : (ints hs).setIfInBounds i (.int .i64 v) = ints (hs.set i v) := by unfold ints; simp
def MeetP (hs : List Int) (i : Nat) (h : Int) (g : Nat) (w : World) (e : Ending) (w' : World) : Prop :=
  match meetL hs i h with | some _ => e = .returned (.tuple #[]) ∧ w' = w.setCell ⟨g, i, none⟩ (.int .i64 h) | none => e = .panicked FAULT ∧ w' = w

set_option maxRecDepth 100000 in
set_option maxHeartbeats 1000000 in
theorem meet_any (g b7 b5 a i n : Nat) (h : Int) (hs : List Int) (w : World) (hg : Blk w g 3 (ints hs)) (h7 : Blk w b7 51 #[.slice (some ⟨g, 0, none⟩) n n]) (h5 : Blk w b5 3 #[.int .i64 (a : Int)]) (hn : hs.length = n) (hi : i < n) (hl : a + i ≤ 2000000000) :
    Calls Try.prog 21 #[.int .i64 ((a + i : Nat) : Int), .int .i64 h, .pointer (some ⟨b7, 0, none⟩), .pointer (some ⟨b5, 0, none⟩)] w (MeetP hs i h g w) := by
  have hT : meetL hs i h ≠ none → MeetP hs i h g w (.returned (.tuple #[])) (w.setCell ⟨g, i, none⟩ (.int .i64 h)) := fun hn => by
    unfold MeetP; cases hm : meetL hs i h with
    | none => exact absurd hm hn
    | some _ => exact ⟨rfl, rfl⟩
  have hP : meetL hs i h = none → MeetP hs i h g w (.panicked FAULT) w := fun hm => by unfold MeetP; rw [hm]; exact ⟨rfl, rfl⟩
  generalize hPp : MeetP hs i h g w = PP at hT hP ⊢
  have HT := Lib.hid hT; have HP := Lib.hid hP; clear hT hP hPp
  obtain ⟨v, hv⟩ : ∃ v, hs[i]? = some v := ⟨_, List.getElem?_eq_getElem (by omega)⟩
  have HM := Lib.hid (show meetL hs i h = if v = -1 ∨ v = h then some (hs.set i h) else none by unfold meetL; rw [List.getD_eq_getElem?_getD, hv]; rfl)
  have hc : w.cell? ⟨g, i, none⟩ = some (.int .i64 v) := (hg.cell i).trans (ints_get hs i v hv)
  have hcz := hg.frozen i
  have hcl := hg.lt
  have h70 : w.cell? ⟨b7, 0, none⟩ = some (.slice (some ⟨g, 0, none⟩) n n) := h7.cell 0
  have h7z := h7.frozen 0
  have h7l := h7.lt
  have h50 : w.cell? ⟨b5, 0, none⟩ = some (.int .i64 (a : Int)) := h5.cell 0
  have h5z := h5.frozen 0
  have h5l := h5.lt
  have e1 : ((a + i : Nat) : Int) - (a : Int) = (i : Int) := by omega
  clear hv hg h7 h5 hn
  by_cases h1 : v = -1
  · have HF := Lib.hid (show meetL hs i h ≠ none by rw [HM.out, if_pos (.inl h1)]; simp)
    subst h1
    clear HM
    go_enter Try.func21, Try.ntmps21
    go_wp2_with (go_at_call 12; refine (need_any _ _).mono ?_; rintro e w2 ⟨he, rfl⟩; obtain rfl := (show _ = _ by first | exact np_t he | exact np_f he))
    go_end0
    exact HT.out HF.out
  · by_cases h2 : v = h
    · have HF := Lib.hid (show meetL hs i h ≠ none by rw [HM.out, if_pos (.inr h2)]; simp)
      subst h2
      clear HM
      have hd1 : (v == -1) = false := beq_eq_false_iff_ne.2 h1
      go_enter Try.func21, Try.ntmps21
      go_wp2_with (go_at_call 12; refine (need_any _ _).mono ?_; rintro e w2 ⟨he, rfl⟩; obtain rfl := (show _ = _ by first | exact np_t he | exact np_f he))
      go_end0
      exact HT.out HF.out
    · have HF := Lib.hid (show meetL hs i h = none by rw [HM.out, if_neg (by omega)])
      clear HM
      have hd1 : (v == -1) = false := beq_eq_false_iff_ne.2 h1
      have hd2 : (v == h) = false := beq_eq_false_iff_ne.2 h2
      go_enter Try.func21, Try.ntmps21
      go_wp2_with (go_at_call 12; refine (need_any _ _).mono ?_; rintro e w2 ⟨he, rfl⟩; obtain rfl := (show _ = _ by first | exact np_t he | exact np_f he))
      exact ⟨rfl, HP.out HF.out⟩

end Go.Proofs.Ythlcbjjeklkmfaa
