/- The law MarksPlaces walked. -/
import Derived.Deep.RegionWith
import Derived.Test.YtppeahlnpidheaaMc
import Derived.Test.YtppeahlnpidheaaLc
namespace Go.Proofs.Ytppeahlnpidheaa
open Go.RowKit

set_option maxRecDepth 100000 in
set_option maxHeartbeats 2000000 in
theorem marksPlaces_any (s : ByteArray) (w : World) (hs : s.size ≤ maxLen) :
    Calls Try.prog 4 #[.string s] w fun e w' => e = .returned (.bool true) ∧ Bel w.heap.size w w' := by
  unfold maxLen at hs
  have HB := Lib.hid (Bel.refl w.heap.size w)
  by_cases h600 : s.size ≤ 600
  · go_enter Try.func4, Try.ntmps4
    go_wp2_with (go_at_call 7; refine (awake_any _).mono ?_; rintro e w' ⟨rfl, hb⟩; have HB := Lib.hid (HB.out.next hb); clear hb)
    go_loopw [3] (fun c wr => ∃ k : Nat, k ≤ 256 ∧ c = .int .i64 k ∧ Bel w.heap.size w wr) (fun c _ => 256 - (intOf c).toNat)
    case atStart => exact ⟨0, by omega, rfl, HB.out⟩
    case round =>
      obtain ⟨k, hk, rfl, hb⟩ := hrel
      have HB := Lib.hid hb; clear hb
      by_cases hlt : k < 256
      · go_wp2_with (first
          | (go_at_call 11; refine (marksIs_any _ _).mono ?_; rintro e w' ⟨rfl, rfl⟩)
          | (go_at_call 12; refine (refIs_any _ _).mono ?_; rintro e w' ⟨rfl, rfl⟩))
        go_roundw
        case rel => exact ⟨k + 1, by omega, by go_num, HB.out⟩
        case measure => simp [intOf] <;> omega
      · go_wp2_with fail
        refine (places_any s (by omega) _).mono ?_
        rintro e w1 ⟨A1, c1, rfl, hr1, hb1⟩
        have HR1 := Lib.hid hr1; have HB1 := Lib.hid hb1; clear hr1 hb1
        go_wp2_with fail
        refine (refPlaces_any s _ (by omega)).mono ?_
        rintro e w2 ⟨A2, c2, rfl, hr2, hb2⟩
        have HR2 := Lib.hid hr2; have HB2 := Lib.hid hb2; clear hr2 hb2
        have hml : (marksI s.data.toList).length ≤ maxLen := by
          have h1 := mk_len 0 s.data.toList 0
          simp [marksI] at h1 ⊢; unfold maxLen; omega
        go_wp2_with fail
        refine (sameInts_any A1 A2 (marksI s.data.toList) (marksI s.data.toList) c1 c2 _ hml hml (HR1.out.bel HB2.out (Nat.le_refl _)) HR2.out).mono ?_
        rintro e w3 ⟨rfl, hb3⟩
        have HB3 := Lib.hid hb3; clear hb3
        go_wp2_with fail
        refine (parens_any s (by omega) _).mono ?_
        rintro e w4 ⟨A4, c4, rfl, hr4, hb4⟩
        have HR4 := Lib.hid hr4; have HB4 := Lib.hid hb4; clear hr4 hb4
        go_wp2_with fail
        refine (refParens_any s _ (by omega)).mono ?_
        rintro e w5 ⟨A5, c5, rfl, hr5, hb5⟩
        have HR5 := Lib.hid hr5; have HB5 := Lib.hid hb5; clear hr5 hb5
        have hmb : (marksB s.data.toList).length ≤ maxLen := by
          have h1 := mk_len 0 s.data.toList 0
          have h2 := parB_len (mk 0 s.data.toList 0)
          simp [marksB] at h1 h2 ⊢; unfold maxLen; omega
        go_wp2_with fail
        refine (sameBits_any A4 A5 (marksB s.data.toList) (marksB s.data.toList) c4 c5 _ hmb hmb (HR4.out.bel HB5.out (Nat.le_refl _)) HR5.out).mono ?_
        rintro e w6 ⟨rfl, hb6⟩
        go_wp2
        go_ret
        exact ⟨ret_bool (by simp), HB.out.trans ((HB1.out.next (HB2.out.next ((Bel.of HB3.out).next (HB4.out.next (HB5.out.next (Bel.of hb6)))))).mono HB.out.size)⟩
  · go_enter Try.func4, Try.ntmps4
    go_wp2_with (go_at_call 7; refine (awake_any _).mono ?_; rintro e w' ⟨rfl, hb⟩; have HB := Lib.hid (HB.out.next hb); clear hb)
    go_ret
    exact ⟨rfl, HB.out⟩

end Go.Proofs.Ytppeahlnpidheaa
