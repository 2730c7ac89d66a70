/- ref09: Scalar (as Kb, over A0). -/
import Derived.Handy
import Derived.Deep.RegionWith
import Derived.Test.YtpcbcodmocmilaaGreatDoorG25
namespace Go.Proofs.YtpcbcodmocmilaaGreatDoor
open Go.RowKit

def cd2 (a b : Int) : Int := (a - 192) * 64 + b % 64
def cd3 (a b c : Int) : Int := ((a - 224) * 64 + b % 64) * 64 + c % 64
def cd4 (a b c d : Int) : Int := (((a - 240) * 64 + b % 64) * 64 + c % 64) * 64 + d % 64
theorem str_iff (a b : ByteArray) : ((a.toList == b.toList) = true) ↔ a = b := ⟨fun h => Classical.byContradiction (fun h' => by rw [str_f h'] at h; exact Bool.noConfusion h), str_t⟩
def SCAL (s : ByteArray) (w : World) (r : Int × Int) : Prop :=
    Calls Tryz.prog 37 #[.string s] w fun e w' => e = .returned (.tuple #[.int .i64 r.1, .int .i64 r.2]) ∧ Below w.heap.size w w'

set_option maxRecDepth 100000 in
set_option maxHeartbeats 1000000 in
theorem scal0 (s : ByteArray) (w : World) (_hs : s.size ≤ maxLen) (hl : s.size = 0) : SCAL s w (0, 0) := by
  unfold SCAL
  go_enter Tryz.func37, Tryz.ntmps37
  go_wp2
  go_ret2
  exact ⟨rfl, Below.refl _ _⟩

set_option maxRecDepth 100000 in
set_option maxHeartbeats 1000000 in
theorem scal1 (s : ByteArray) (w : World) (_hs : s.size ≤ maxLen) (hl : 0 < s.size) (h1 : (s[0].toNat : Int) < 128) : SCAL s w ((s[0].toNat : Int), 1) := by
  unfold SCAL
  go_enter Tryz.func37, Tryz.ntmps37
  go_wp2
  go_ret2
  exact ⟨rfl, Below.refl _ _⟩

set_option maxRecDepth 100000 in
set_option maxHeartbeats 1000000 in
theorem scalm (s : ByteArray) (w : World) (_hs : s.size ≤ maxLen) (hl : 0 < s.size) (h1 : 128 ≤ (s[0].toNat : Int)) (h2 : (s[0].toNat : Int) < 192) : SCAL s w (0, 0) := by
  unfold SCAL
  go_enter Tryz.func37, Tryz.ntmps37
  go_wp2
  go_ret2
  exact ⟨rfl, Below.refl _ _⟩

set_option maxRecDepth 100000 in
set_option maxHeartbeats 1000000 in
theorem scalh (s : ByteArray) (w : World) (_hs : s.size ≤ maxLen) (hl : 0 < s.size) (h1 : 248 ≤ (s[0].toNat : Int)) : SCAL s w (0, 0) := by
  unfold SCAL
  go_enter Tryz.func37, Tryz.ntmps37
  go_wp2
  go_ret2
  exact ⟨rfl, Below.refl _ _⟩

set_option maxRecDepth 100000 in
set_option maxHeartbeats 1000000 in
theorem scals2 (s : ByteArray) (w : World) (hs : s.size ≤ maxLen) (hl : 0 < s.size) (hl' : s.size < 2) (h1 : 192 ≤ (s[0].toNat : Int)) (h2 : (s[0].toNat : Int) < 224) : SCAL s w (0, 0) := by
  unfold SCAL
  unfold maxLen at hs
  go_enter Tryz.func37, Tryz.ntmps37
  go_wp2
  go_ret2
  exact ⟨rfl, Below.refl _ _⟩

set_option maxRecDepth 100000 in
set_option maxHeartbeats 1000000 in
theorem scal2 (s : ByteArray) (w : World) (hs : s.size ≤ maxLen) (hl : 2 ≤ s.size) (h1 : 192 ≤ (s[0].toNat : Int)) (h2 : (s[0].toNat : Int) < 224) :
    ∃ b : Bool, (b = true ↔ strOfNums (putI (cd2 (s[0].toNat : Int) (s[1].toNat : Int))) = s.extract 0 2) ∧ SCAL s w (cond b ((cd2 (s[0].toNat : Int) (s[1].toNat : Int)), 2) (0, 0)) := by
  unfold SCAL
  unfold maxLen at hs
  have hb1 : (s[1].toNat : Int) < 256 := by have := s[1].toNat_lt; omega
  refine ⟨(strOfNums (putI (cd2 (s[0].toNat : Int) (s[1].toNat : Int)))).toList == (s.extract 0 2).toList, str_iff _ _, ?_⟩
  obtain ⟨bb, hbb⟩ : ∃ bb, ((strOfNums (putI (cd2 (s[0].toNat : Int) (s[1].toNat : Int)))).toList == (s.extract 0 2).toList) = bb := ⟨_, rfl⟩
  rw [hbb]
  unfold cd2 at *
  go_enter Tryz.func37, Tryz.ntmps37
  go_wp2
  go_rounds 2
  go_region_with (go_at_call 59; refine (put_any _ _ (by omega) (by omega)).mono ?_; rintro e w' ⟨rfl, hbw⟩)
  cases bb
  all_goals
    go_wp2
    go_ret2
    exact ⟨rfl, ((Below.refl _ _).drew).trans hbw⟩

set_option maxRecDepth 100000 in
set_option maxHeartbeats 1000000 in
theorem scals3 (s : ByteArray) (w : World) (hs : s.size ≤ maxLen) (hl : 0 < s.size) (hl' : s.size < 3) (h1 : 224 ≤ (s[0].toNat : Int)) (h2 : (s[0].toNat : Int) < 240) : SCAL s w (0, 0) := by
  unfold SCAL
  unfold maxLen at hs
  go_enter Tryz.func37, Tryz.ntmps37
  go_wp2
  go_ret2
  exact ⟨rfl, Below.refl _ _⟩

set_option maxRecDepth 100000 in
set_option maxHeartbeats 1000000 in
theorem scal3 (s : ByteArray) (w : World) (hs : s.size ≤ maxLen) (hl : 3 ≤ s.size) (h1 : 224 ≤ (s[0].toNat : Int)) (h2 : (s[0].toNat : Int) < 240) :
    ∃ b : Bool, (b = true ↔ strOfNums (putI (cd3 (s[0].toNat : Int) (s[1].toNat : Int) (s[2].toNat : Int))) = s.extract 0 3) ∧ SCAL s w (cond b ((cd3 (s[0].toNat : Int) (s[1].toNat : Int) (s[2].toNat : Int)), 3) (0, 0)) := by
  unfold SCAL
  unfold maxLen at hs
  have hb1 : (s[1].toNat : Int) < 256 := by have := s[1].toNat_lt; omega
  have hb2 : (s[2].toNat : Int) < 256 := by have := s[2].toNat_lt; omega
  refine ⟨(strOfNums (putI (cd3 (s[0].toNat : Int) (s[1].toNat : Int) (s[2].toNat : Int)))).toList == (s.extract 0 3).toList, str_iff _ _, ?_⟩
  obtain ⟨bb, hbb⟩ : ∃ bb, ((strOfNums (putI (cd3 (s[0].toNat : Int) (s[1].toNat : Int) (s[2].toNat : Int)))).toList == (s.extract 0 3).toList) = bb := ⟨_, rfl⟩
  rw [hbb]
  unfold cd3 at *
  go_enter Tryz.func37, Tryz.ntmps37
  go_wp2
  go_rounds 3
  go_region_with (go_at_call 59; refine (put_any _ _ (by omega) (by omega)).mono ?_; rintro e w' ⟨rfl, hbw⟩)
  cases bb
  all_goals
    go_wp2
    go_ret2
    exact ⟨rfl, ((Below.refl _ _).drew).trans hbw⟩

set_option maxRecDepth 100000 in
set_option maxHeartbeats 1000000 in
theorem scals4 (s : ByteArray) (w : World) (hs : s.size ≤ maxLen) (hl : 0 < s.size) (hl' : s.size < 4) (h1 : 240 ≤ (s[0].toNat : Int)) (h2 : (s[0].toNat : Int) < 248) : SCAL s w (0, 0) := by
  unfold SCAL
  unfold maxLen at hs
  go_enter Tryz.func37, Tryz.ntmps37
  go_wp2
  go_ret2
  exact ⟨rfl, Below.refl _ _⟩

set_option maxRecDepth 100000 in
set_option maxHeartbeats 1000000 in
theorem scal4 (s : ByteArray) (w : World) (hs : s.size ≤ maxLen) (hl : 4 ≤ s.size) (h1 : 240 ≤ (s[0].toNat : Int)) (h2 : (s[0].toNat : Int) < 248) :
    ∃ b : Bool, (b = true ↔ strOfNums (putI (cd4 (s[0].toNat : Int) (s[1].toNat : Int) (s[2].toNat : Int) (s[3].toNat : Int))) = s.extract 0 4) ∧ SCAL s w (cond b ((cd4 (s[0].toNat : Int) (s[1].toNat : Int) (s[2].toNat : Int) (s[3].toNat : Int)), 4) (0, 0)) := by
  unfold SCAL
  unfold maxLen at hs
  have hb1 : (s[1].toNat : Int) < 256 := by have := s[1].toNat_lt; omega
  have hb2 : (s[2].toNat : Int) < 256 := by have := s[2].toNat_lt; omega
  have hb3 : (s[3].toNat : Int) < 256 := by have := s[3].toNat_lt; omega
  refine ⟨(strOfNums (putI (cd4 (s[0].toNat : Int) (s[1].toNat : Int) (s[2].toNat : Int) (s[3].toNat : Int)))).toList == (s.extract 0 4).toList, str_iff _ _, ?_⟩
  obtain ⟨bb, hbb⟩ : ∃ bb, ((strOfNums (putI (cd4 (s[0].toNat : Int) (s[1].toNat : Int) (s[2].toNat : Int) (s[3].toNat : Int)))).toList == (s.extract 0 4).toList) = bb := ⟨_, rfl⟩
  rw [hbb]
  unfold cd4 at *
  go_enter Tryz.func37, Tryz.ntmps37
  go_wp2
  go_rounds 4
  go_region_with (go_at_call 59; refine (put_any _ _ (by omega) (by omega)).mono ?_; rintro e w' ⟨rfl, hbw⟩)
  cases bb
  all_goals
    go_wp2
    go_ret2
    exact ⟨rfl, ((Below.refl _ _).drew).trans hbw⟩

/-- The i-th byte, as a number. -/
def bI (s : ByteArray) (i : Nat) : Int := ((s.data.toList.getD i 0).toNat : Int)
theorem bI_eq (s : ByteArray) (i : Nat) (h : i < s.size) : ((s[i]).toNat : Int) = bI s i := by
  have e : s.data.toList[i]? = some s[i] := by
    rw [List.getElem?_eq_getElem (by simpa using h)]; rfl
  simp [bI, List.getD, e]
def code2 (s : ByteArray) : Int := cd2 (bI s 0) (bI s 1)
def code3 (s : ByteArray) : Int := cd3 (bI s 0) (bI s 1) (bI s 2)
def code4 (s : ByteArray) : Int := cd4 (bI s 0) (bI s 1) (bI s 2) (bI s 3)
/-- With which scalar bytes begin, and how many bytes it has. -/
def scalM (s : ByteArray) : Int × Int :=
  if s.size = 0 then (0, 0) else if bI s 0 < 128 then (bI s 0, 1) else if bI s 0 < 192 then (0, 0)
  else if bI s 0 < 224 then (if s.size < 2 then (0, 0) else if strOfNums (putI (code2 s)) = s.extract 0 2 then (code2 s, 2) else (0, 0))
  else if bI s 0 < 240 then (if s.size < 3 then (0, 0) else if strOfNums (putI (code3 s)) = s.extract 0 3 then (code3 s, 3) else (0, 0))
  else if bI s 0 < 248 then (if s.size < 4 then (0, 0) else if strOfNums (putI (code4 s)) = s.extract 0 4 then (code4 s, 4) else (0, 0))
  else (0, 0)

theorem scal_any (s : ByteArray) (w : World) (hs : s.size ≤ maxLen) : SCAL s w (scalM s) := by
  unfold scalM code2 code3 code4
  by_cases h0 : s.size = 0
  · rw [if_pos h0]; exact scal0 s w hs h0
  · rw [if_neg h0]
    have hl : 0 < s.size := by omega
    have e0 := bI_eq s 0 hl
    by_cases h1 : bI s 0 < 128
    · rw [if_pos h1, ← e0]; exact scal1 s w hs hl (by omega)
    · rw [if_neg h1]
      by_cases h2 : bI s 0 < 192
      · rw [if_pos h2]; exact scalm s w hs hl (by omega) (by omega)
      · rw [if_neg h2]
        by_cases h3 : bI s 0 < 224
        · rw [if_pos h3]
          by_cases hn : s.size < 2
          · rw [if_pos hn]; exact scals2 s w hs hl hn (by omega) (by omega)
          · rw [if_neg hn]
            obtain ⟨b, hb, h⟩ := scal2 s w hs (by omega) (by omega) (by omega)
            rw [e0, bI_eq s 1 (by omega)] at h hb
            cases b
            · rw [if_neg (fun e => absurd (hb.2 e) (by decide))]; exact h
            · rw [if_pos (hb.1 rfl)]; exact h
        · rw [if_neg h3]
          by_cases h4 : bI s 0 < 240
          · rw [if_pos h4]
            by_cases hn : s.size < 3
            · rw [if_pos hn]; exact scals3 s w hs hl hn (by omega) (by omega)
            · rw [if_neg hn]
              obtain ⟨b, hb, h⟩ := scal3 s w hs (by omega) (by omega) (by omega)
              rw [e0, bI_eq s 1 (by omega), bI_eq s 2 (by omega)] at h hb
              cases b
              · rw [if_neg (fun e => absurd (hb.2 e) (by decide))]; exact h
              · rw [if_pos (hb.1 rfl)]; exact h
          · rw [if_neg h4]
            by_cases h5 : bI s 0 < 248
            · rw [if_pos h5]
              by_cases hn : s.size < 4
              · rw [if_pos hn]; exact scals4 s w hs hl hn (by omega) (by omega)
              · rw [if_neg hn]
                obtain ⟨b, hb, h⟩ := scal4 s w hs (by omega) (by omega) (by omega)
                rw [e0, bI_eq s 1 (by omega), bI_eq s 2 (by omega), bI_eq s 3 (by omega)] at h hb
                cases b
                · rw [if_neg (fun e => absurd (hb.2 e) (by decide))]; exact h
                · rw [if_pos (hb.1 rfl)]; exact h
            · rw [if_neg h5]; exact scalh s w hs hl (by omega)

end Go.Proofs.YtpcbcodmocmilaaGreatDoor
