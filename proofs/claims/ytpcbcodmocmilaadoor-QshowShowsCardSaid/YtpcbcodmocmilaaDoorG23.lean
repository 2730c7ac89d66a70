/- G23: Ue, Uf, Ug, Uh, Wb, Wc joined. -/
import Derived.Laws.BytesArg
import Derived.Handy
import Derived.Deep.RegionWith
import Derived.Test.YtpcbcodmocmilaaDoorG07
import Derived.Test.YtpcbcodmocmilaaDoorUp
namespace Go.Proofs.YtpcbcodmocmilaaDoor
open Go.RowKit
/- qlex: what a token is told by; plain. -/
section

end
/- qlex: what a token is told by: numbers, signs; plain. -/
section

end
/- qlex: a token is told by its own bytes and what bounds it; plain. -/
section

end
/- qlex: what stands behind a blank changes no token ahead of it; plain. -/
section

theorem bkN_zero {u : List UInt8} (h : u.drop (bkN u) ≠ []) : bkN (u.drop (bkN u)) = 0 := by
  induction u with
  | nil => rfl
  | cons c q ih =>
    by_cases hc : isBk c = true
    · have e : bkN (c :: q) = bkN q + 1 := by rw [bkN, if_pos hc]
      rw [e, List.drop_succ_cons] at h ⊢
      exact ih h
    · have e : bkN (c :: q) = 0 := by rw [bkN, if_neg hc]
      rw [e]; exact e
theorem bkN_take (u : List UInt8) : ∀ c ∈ u.take (bkN u), isBk c = true := by
  induction u with
  | nil => simp [bkN]
  | cons c q ih =>
    unfold bkN
    split
    · rename_i hc
      intro d hd
      rw [List.take_succ_cons, List.mem_cons] at hd
      rcases hd with rfl | hd
      · exact hc
      · exact ih d hd
    · simp
end
/- ref09: Put (as Ka, over A0). -/
section
open Go.RowKit

theorem conv_new (w : World) (xs : List Int) (n c : Nat) (t : TypeId) (m : Nat × Nat) (hn : xs.length = n) :
    (convert 57 9 (.slice (some ⟨w.heap.size, 0, none⟩) n c)).run Tryd.prog (w.alloc (.cells (xs.map (Value.int .u8)).toArray t m)) = .ok (.string (strOfNums xs)) (w.alloc (.cells (xs.map (Value.int .u8)).toArray t m)) :=
  run_convert_bytes_arg (P := Tryd.prog) _ 57 5 Tryd.underlying57 Tryd.underlying5 w.heap.size 0 n c xs hn (fun i hi => by
    rw [Nat.zero_add, World.cell?_alloc_mark]
    simp [List.getD, List.getElem?_eq_getElem (show i < xs.length by omega)]) 9 Tryd.underlying9
theorem conv_1 (w : World) (a : Int) : (convert 57 9 (.slice (some ⟨w.heap.size, 0, none⟩) 1 1)).run Tryd.prog (w.alloc (.cells #[.int .u8 a] 5)) = .ok (.string (strOfNums [a])) (w.alloc (.cells #[.int .u8 a] 5)) := conv_new w [a] 1 1 _ _ rfl
theorem conv_2 (w : World) (a b : Int) : (convert 57 9 (.slice (some ⟨w.heap.size, 0, none⟩) 2 2)).run Tryd.prog (w.alloc (.cells #[.int .u8 a, .int .u8 b] 5)) = .ok (.string (strOfNums [a, b])) (w.alloc (.cells #[.int .u8 a, .int .u8 b] 5)) := conv_new w [a, b] 2 2 _ _ rfl
theorem conv_3 (w : World) (a b c : Int) : (convert 57 9 (.slice (some ⟨w.heap.size, 0, none⟩) 3 3)).run Tryd.prog (w.alloc (.cells #[.int .u8 a, .int .u8 b, .int .u8 c] 5)) = .ok (.string (strOfNums [a, b, c])) (w.alloc (.cells #[.int .u8 a, .int .u8 b, .int .u8 c] 5)) := conv_new w [a, b, c] 3 3 _ _ rfl
theorem conv_4 (w : World) (a b c d : Int) : (convert 57 9 (.slice (some ⟨w.heap.size, 0, none⟩) 4 4)).run Tryd.prog (w.alloc (.cells #[.int .u8 a, .int .u8 b, .int .u8 c, .int .u8 d] 5)) = .ok (.string (strOfNums [a, b, c, d])) (w.alloc (.cells #[.int .u8 a, .int .u8 b, .int .u8 c, .int .u8 d] 5)) := conv_new w [a, b, c, d] 4 4 _ _ rfl

set_option maxHeartbeats 1000000 in
theorem put_any (c : Int) (w : World) (h0 : 0 ≤ c) (h1 : c < 2097152) :
    Calls Tryd.prog 62 #[.int .i64 c] w fun e w' => e = .returned (.string (strOfNums (putI c))) ∧ Below w.heap.size w w' := by
  have k1 := conv_1; have k2 := conv_2; have k3 := conv_3; have k4 := conv_4
  by_cases hb : c < 0 ∨ 1114111 < c ∨ (55296 ≤ c ∧ c ≤ 57343)
  · have e := Lib.hid (show strOfNums (putI c) = ⟨#[]⟩ by rw [putI, if_pos hb]; rfl)
    rcases hb with hb | hb | ⟨hb, hb'⟩
    · omega
    all_goals
      go_enter Tryd.func62, Tryd.ntmps62
      go_wp2
      go_ret
      exact ⟨ret_str (by rw [e.out]), Below.refl _ _⟩
  · have e := Lib.hid (show putI c = _ by rw [putI, if_neg hb])
    have g1 : c ≤ 1114111 := by omega
    by_cases g2 : c < 55296
    · clear hb
      by_cases h2 : c < 128
      · have e := Lib.hid (show putI c = _ from e.out.trans (if_pos h2))
        go_enter Tryd.func62, Tryd.ntmps62
        go_wp2
        go_ret
        exact ⟨ret_str (by rw [e.out]), (Below.refl _ _).alloc (Nat.le_refl _) _⟩
      · have e := Lib.hid (show putI c = _ from e.out.trans (if_neg h2))
        by_cases h3 : c < 2048
        · have e := Lib.hid (show putI c = _ from e.out.trans (if_pos h3))
          go_enter Tryd.func62, Tryd.ntmps62
          go_wp2
          go_ret
          exact ⟨ret_str (by rw [e.out]), (Below.refl _ _).alloc (Nat.le_refl _) _⟩
        · have e := Lib.hid (show putI c = _ from e.out.trans (if_neg h3))
          have e := Lib.hid (show putI c = _ from e.out.trans (if_pos (by omega)))
          go_enter Tryd.func62, Tryd.ntmps62
          go_wp2
          go_ret
          exact ⟨ret_str (by rw [e.out]), (Below.refl _ _).alloc (Nat.le_refl _) _⟩
    · have g3 : 57343 < c := by omega
      clear hb
      have e := Lib.hid (show putI c = _ from e.out.trans (if_neg (by omega)))
      have e := Lib.hid (show putI c = _ from e.out.trans (if_neg (by omega)))
      by_cases h4 : c < 65536
      · have e := Lib.hid (show putI c = _ from e.out.trans (if_pos h4))
        go_enter Tryd.func62, Tryd.ntmps62
        go_wp2
        go_ret
        exact ⟨ret_str (by rw [e.out]), (Below.refl _ _).alloc (Nat.le_refl _) _⟩
      · have e := Lib.hid (show putI c = _ from e.out.trans (if_neg h4))
        go_enter Tryd.func62, Tryd.ntmps62
        go_wp2
        go_ret
        exact ⟨ret_str (by rw [e.out]), (Below.refl _ _).alloc (Nat.le_refl _) _⟩

end
/- ref09: Scalar (as Kb, over A0). -/
section
open Go.RowKit

def cd2 (a b : Int) : Int := (a - 192) * 64 + b % 64
def cd3 (a b c : Int) : Int := ((a - 224) * 64 + b % 64) * 64 + c % 64
def cd4 (a b c d : Int) : Int := (((a - 240) * 64 + b % 64) * 64 + c % 64) * 64 + d % 64
theorem str_iff (a b : ByteArray) : ((a.toList == b.toList) = true) ↔ a = b := ⟨fun h => Classical.byContradiction (fun h' => by rw [str_f h'] at h; exact Bool.noConfusion h), str_t⟩
def SCAL (s : ByteArray) (w : World) (r : Int × Int) : Prop :=
    Calls Tryd.prog 63 #[.string s] w fun e w' => e = .returned (.tuple #[.int .i64 r.1, .int .i64 r.2]) ∧ Below w.heap.size w w'

set_option maxRecDepth 100000 in
set_option maxHeartbeats 1000000 in
theorem scal0 (s : ByteArray) (w : World) (_hs : s.size ≤ maxLen) (hl : s.size = 0) : SCAL s w (0, 0) := by
  unfold SCAL
  go_enter Tryd.func63, Tryd.ntmps63
  go_wp2
  go_ret2
  exact ⟨rfl, Below.refl _ _⟩

set_option maxRecDepth 100000 in
set_option maxHeartbeats 1000000 in
theorem scal1 (s : ByteArray) (w : World) (_hs : s.size ≤ maxLen) (hl : 0 < s.size) (h1 : (s[0].toNat : Int) < 128) : SCAL s w ((s[0].toNat : Int), 1) := by
  unfold SCAL
  go_enter Tryd.func63, Tryd.ntmps63
  go_wp2
  go_ret2
  exact ⟨rfl, Below.refl _ _⟩

set_option maxRecDepth 100000 in
set_option maxHeartbeats 1000000 in
theorem scalm (s : ByteArray) (w : World) (_hs : s.size ≤ maxLen) (hl : 0 < s.size) (h1 : 128 ≤ (s[0].toNat : Int)) (h2 : (s[0].toNat : Int) < 192) : SCAL s w (0, 0) := by
  unfold SCAL
  go_enter Tryd.func63, Tryd.ntmps63
  go_wp2
  go_ret2
  exact ⟨rfl, Below.refl _ _⟩

set_option maxRecDepth 100000 in
set_option maxHeartbeats 1000000 in
theorem scalh (s : ByteArray) (w : World) (_hs : s.size ≤ maxLen) (hl : 0 < s.size) (h1 : 248 ≤ (s[0].toNat : Int)) : SCAL s w (0, 0) := by
  unfold SCAL
  go_enter Tryd.func63, Tryd.ntmps63
  go_wp2
  go_ret2
  exact ⟨rfl, Below.refl _ _⟩

set_option maxRecDepth 100000 in
set_option maxHeartbeats 1000000 in
theorem scals2 (s : ByteArray) (w : World) (hs : s.size ≤ maxLen) (hl : 0 < s.size) (hl' : s.size < 2) (h1 : 192 ≤ (s[0].toNat : Int)) (h2 : (s[0].toNat : Int) < 224) : SCAL s w (0, 0) := by
  unfold SCAL
  unfold maxLen at hs
  go_enter Tryd.func63, Tryd.ntmps63
  go_wp2
  go_ret2
  exact ⟨rfl, Below.refl _ _⟩

set_option maxRecDepth 100000 in
set_option maxHeartbeats 1000000 in
theorem scal2 (s : ByteArray) (w : World) (hs : s.size ≤ maxLen) (hl : 2 ≤ s.size) (h1 : 192 ≤ (s[0].toNat : Int)) (h2 : (s[0].toNat : Int) < 224) :
    ∃ b : Bool, (b = true ↔ strOfNums (putI (cd2 (s[0].toNat : Int) (s[1].toNat : Int))) = s.extract 0 2) ∧ SCAL s w (cond b ((cd2 (s[0].toNat : Int) (s[1].toNat : Int)), 2) (0, 0)) := by
  unfold SCAL
  unfold maxLen at hs
  have hb1 : (s[1].toNat : Int) < 256 := by have := s[1].toNat_lt; omega
  refine ⟨(strOfNums (putI (cd2 (s[0].toNat : Int) (s[1].toNat : Int)))).toList == (s.extract 0 2).toList, str_iff _ _, ?_⟩
  obtain ⟨bb, hbb⟩ : ∃ bb, ((strOfNums (putI (cd2 (s[0].toNat : Int) (s[1].toNat : Int)))).toList == (s.extract 0 2).toList) = bb := ⟨_, rfl⟩
  rw [hbb]
  unfold cd2 at *
  go_enter Tryd.func63, Tryd.ntmps63
  go_wp2
  go_rounds 2
  go_region_with (go_at_call 62; refine (put_any _ _ (by omega) (by omega)).mono ?_; rintro e w' ⟨rfl, hbw⟩)
  cases bb
  all_goals
    go_wp2
    go_ret2
    exact ⟨rfl, ((Below.refl _ _).drew).trans hbw⟩

set_option maxRecDepth 100000 in
set_option maxHeartbeats 1000000 in
theorem scals3 (s : ByteArray) (w : World) (hs : s.size ≤ maxLen) (hl : 0 < s.size) (hl' : s.size < 3) (h1 : 224 ≤ (s[0].toNat : Int)) (h2 : (s[0].toNat : Int) < 240) : SCAL s w (0, 0) := by
  unfold SCAL
  unfold maxLen at hs
  go_enter Tryd.func63, Tryd.ntmps63
  go_wp2
  go_ret2
  exact ⟨rfl, Below.refl _ _⟩

set_option maxRecDepth 100000 in
set_option maxHeartbeats 1000000 in
theorem scal3 (s : ByteArray) (w : World) (hs : s.size ≤ maxLen) (hl : 3 ≤ s.size) (h1 : 224 ≤ (s[0].toNat : Int)) (h2 : (s[0].toNat : Int) < 240) :
    ∃ b : Bool, (b = true ↔ strOfNums (putI (cd3 (s[0].toNat : Int) (s[1].toNat : Int) (s[2].toNat : Int))) = s.extract 0 3) ∧ SCAL s w (cond b ((cd3 (s[0].toNat : Int) (s[1].toNat : Int) (s[2].toNat : Int)), 3) (0, 0)) := by
  unfold SCAL
  unfold maxLen at hs
  have hb1 : (s[1].toNat : Int) < 256 := by have := s[1].toNat_lt; omega
  have hb2 : (s[2].toNat : Int) < 256 := by have := s[2].toNat_lt; omega
  refine ⟨(strOfNums (putI (cd3 (s[0].toNat : Int) (s[1].toNat : Int) (s[2].toNat : Int)))).toList == (s.extract 0 3).toList, str_iff _ _, ?_⟩
  obtain ⟨bb, hbb⟩ : ∃ bb, ((strOfNums (putI (cd3 (s[0].toNat : Int) (s[1].toNat : Int) (s[2].toNat : Int)))).toList == (s.extract 0 3).toList) = bb := ⟨_, rfl⟩
  rw [hbb]
  unfold cd3 at *
  go_enter Tryd.func63, Tryd.ntmps63
  go_wp2
  go_rounds 3
  go_region_with (go_at_call 62; refine (put_any _ _ (by omega) (by omega)).mono ?_; rintro e w' ⟨rfl, hbw⟩)
  cases bb
  all_goals
    go_wp2
    go_ret2
    exact ⟨rfl, ((Below.refl _ _).drew).trans hbw⟩

set_option maxRecDepth 100000 in
set_option maxHeartbeats 1000000 in
theorem scals4 (s : ByteArray) (w : World) (hs : s.size ≤ maxLen) (hl : 0 < s.size) (hl' : s.size < 4) (h1 : 240 ≤ (s[0].toNat : Int)) (h2 : (s[0].toNat : Int) < 248) : SCAL s w (0, 0) := by
  unfold SCAL
  unfold maxLen at hs
  go_enter Tryd.func63, Tryd.ntmps63
  go_wp2
  go_ret2
  exact ⟨rfl, Below.refl _ _⟩

set_option maxRecDepth 100000 in
set_option maxHeartbeats 1000000 in
theorem scal4 (s : ByteArray) (w : World) (hs : s.size ≤ maxLen) (hl : 4 ≤ s.size) (h1 : 240 ≤ (s[0].toNat : Int)) (h2 : (s[0].toNat : Int) < 248) :
    ∃ b : Bool, (b = true ↔ strOfNums (putI (cd4 (s[0].toNat : Int) (s[1].toNat : Int) (s[2].toNat : Int) (s[3].toNat : Int))) = s.extract 0 4) ∧ SCAL s w (cond b ((cd4 (s[0].toNat : Int) (s[1].toNat : Int) (s[2].toNat : Int) (s[3].toNat : Int)), 4) (0, 0)) := by
  unfold SCAL
  unfold maxLen at hs
  have hb1 : (s[1].toNat : Int) < 256 := by have := s[1].toNat_lt; omega
  have hb2 : (s[2].toNat : Int) < 256 := by have := s[2].toNat_lt; omega
  have hb3 : (s[3].toNat : Int) < 256 := by have := s[3].toNat_lt; omega
  refine ⟨(strOfNums (putI (cd4 (s[0].toNat : Int) (s[1].toNat : Int) (s[2].toNat : Int) (s[3].toNat : Int)))).toList == (s.extract 0 4).toList, str_iff _ _, ?_⟩
  obtain ⟨bb, hbb⟩ : ∃ bb, ((strOfNums (putI (cd4 (s[0].toNat : Int) (s[1].toNat : Int) (s[2].toNat : Int) (s[3].toNat : Int)))).toList == (s.extract 0 4).toList) = bb := ⟨_, rfl⟩
  rw [hbb]
  unfold cd4 at *
  go_enter Tryd.func63, Tryd.ntmps63
  go_wp2
  go_rounds 4
  go_region_with (go_at_call 62; refine (put_any _ _ (by omega) (by omega)).mono ?_; rintro e w' ⟨rfl, hbw⟩)
  cases bb
  all_goals
    go_wp2
    go_ret2
    exact ⟨rfl, ((Below.refl _ _).drew).trans hbw⟩

/-- The i-th byte, as a number. -/
def bI (s : ByteArray) (i : Nat) : Int := ((s.data.toList.getD i 0).toNat : Int)
theorem bI_eq (s : ByteArray) (i : Nat) (h : i < s.size) : ((s[i]).toNat : Int) = bI s i := by
  have e : s.data.toList[i]? = some s[i] := by
    rw [List.getElem?_eq_getElem (by simpa using h)]; rfl
  simp [bI, List.getD, e]
def code2 (s : ByteArray) : Int := cd2 (bI s 0) (bI s 1)
def code3 (s : ByteArray) : Int := cd3 (bI s 0) (bI s 1) (bI s 2)
def code4 (s : ByteArray) : Int := cd4 (bI s 0) (bI s 1) (bI s 2) (bI s 3)
/-- With which scalar bytes begin, and how many bytes it has. -/
def scalM (s : ByteArray) : Int × Int :=
  if s.size = 0 then (0, 0) else if bI s 0 < 128 then (bI s 0, 1) else if bI s 0 < 192 then (0, 0)
  else if bI s 0 < 224 then (if s.size < 2 then (0, 0) else if strOfNums (putI (code2 s)) = s.extract 0 2 then (code2 s, 2) else (0, 0))
  else if bI s 0 < 240 then (if s.size < 3 then (0, 0) else if strOfNums (putI (code3 s)) = s.extract 0 3 then (code3 s, 3) else (0, 0))
  else if bI s 0 < 248 then (if s.size < 4 then (0, 0) else if strOfNums (putI (code4 s)) = s.extract 0 4 then (code4 s, 4) else (0, 0))
  else (0, 0)

theorem scal_any (s : ByteArray) (w : World) (hs : s.size ≤ maxLen) : SCAL s w (scalM s) := by
  unfold scalM code2 code3 code4
  by_cases h0 : s.size = 0
  · rw [if_pos h0]; exact scal0 s w hs h0
  · rw [if_neg h0]
    have hl : 0 < s.size := by omega
    have e0 := bI_eq s 0 hl
    by_cases h1 : bI s 0 < 128
    · rw [if_pos h1, ← e0]; exact scal1 s w hs hl (by omega)
    · rw [if_neg h1]
      by_cases h2 : bI s 0 < 192
      · rw [if_pos h2]; exact scalm s w hs hl (by omega) (by omega)
      · rw [if_neg h2]
        by_cases h3 : bI s 0 < 224
        · rw [if_pos h3]
          by_cases hn : s.size < 2
          · rw [if_pos hn]; exact scals2 s w hs hl hn (by omega) (by omega)
          · rw [if_neg hn]
            obtain ⟨b, hb, h⟩ := scal2 s w hs (by omega) (by omega) (by omega)
            rw [e0, bI_eq s 1 (by omega)] at h hb
            cases b
            · rw [if_neg (fun e => absurd (hb.2 e) (by decide))]; exact h
            · rw [if_pos (hb.1 rfl)]; exact h
        · rw [if_neg h3]
          by_cases h4 : bI s 0 < 240
          · rw [if_pos h4]
            by_cases hn : s.size < 3
            · rw [if_pos hn]; exact scals3 s w hs hl hn (by omega) (by omega)
            · rw [if_neg hn]
              obtain ⟨b, hb, h⟩ := scal3 s w hs (by omega) (by omega) (by omega)
              rw [e0, bI_eq s 1 (by omega), bI_eq s 2 (by omega)] at h hb
              cases b
              · rw [if_neg (fun e => absurd (hb.2 e) (by decide))]; exact h
              · rw [if_pos (hb.1 rfl)]; exact h
          · rw [if_neg h4]
            by_cases h5 : bI s 0 < 248
            · rw [if_pos h5]
              by_cases hn : s.size < 4
              · rw [if_pos hn]; exact scals4 s w hs hl hn (by omega) (by omega)
              · rw [if_neg hn]
                obtain ⟨b, hb, h⟩ := scal4 s w hs (by omega) (by omega) (by omega)
                rw [e0, bI_eq s 1 (by omega), bI_eq s 2 (by omega), bI_eq s 3 (by omega)] at h hb
                cases b
                · rw [if_neg (fun e => absurd (hb.2 e) (by decide))]; exact h
                · rw [if_pos (hb.1 rfl)]; exact h
            · rw [if_neg h5]; exact scalh s w hs hl (by omega)

end

end Go.Proofs.YtpcbcodmocmilaaDoor
