/- M2: Wc, Xa, Xb, Xe joined. -/
import Derived.Handy
import Derived.Deep.RegionWith
import Derived.Deep.LoopGhost
import Derived.Test.YtmopeandckmgcaaDoorM1
namespace Go.Proofs.YtmopeandckmgcaaDoor
open Go.RowKit
/- ref09: Scalar (as Kb, over A0). -/

def cd2 (a b : Int) : Int := (a - 192) * 64 + b % 64
def cd3 (a b c : Int) : Int := ((a - 224) * 64 + b % 64) * 64 + c % 64
def cd4 (a b c d : Int) : Int := (((a - 240) * 64 + b % 64) * 64 + c % 64) * 64 + d % 64
theorem str_iff (a b : ByteArray) : ((a.toList == b.toList) = true) ↔ a = b := ⟨fun h => Classical.byContradiction (fun h' => by rw [str_f h'] at h; exact Bool.noConfusion h), str_t⟩
def SCAL (s : ByteArray) (w : World) (r : Int × Int) : Prop :=
    Calls Tryd.prog 32 #[.string s] w fun e w' => e = .returned (.tuple #[.int .i64 r.1, .int .i64 r.2]) ∧ Below w.heap.size w w'

set_option maxRecDepth 100000 in
set_option maxHeartbeats 1000000 in
theorem scal0 (s : ByteArray) (w : World) (_hs : s.size ≤ maxLen) (hl : s.size = 0) : SCAL s w (0, 0) := by
  unfold SCAL
  go_enter Tryd.func32, Tryd.ntmps32
  go_wp2
  go_ret2
  exact ⟨rfl, Below.refl _ _⟩

set_option maxRecDepth 100000 in
set_option maxHeartbeats 1000000 in
theorem scal1 (s : ByteArray) (w : World) (_hs : s.size ≤ maxLen) (hl : 0 < s.size) (h1 : (s[0].toNat : Int) < 128) : SCAL s w ((s[0].toNat : Int), 1) := by
  unfold SCAL
  go_enter Tryd.func32, Tryd.ntmps32
  go_wp2
  go_ret2
  exact ⟨rfl, Below.refl _ _⟩

set_option maxRecDepth 100000 in
set_option maxHeartbeats 1000000 in
theorem scalm (s : ByteArray) (w : World) (_hs : s.size ≤ maxLen) (hl : 0 < s.size) (h1 : 128 ≤ (s[0].toNat : Int)) (h2 : (s[0].toNat : Int) < 192) : SCAL s w (0, 0) := by
  unfold SCAL
  go_enter Tryd.func32, Tryd.ntmps32
  go_wp2
  go_ret2
  exact ⟨rfl, Below.refl _ _⟩

set_option maxRecDepth 100000 in
set_option maxHeartbeats 1000000 in
theorem scalh (s : ByteArray) (w : World) (_hs : s.size ≤ maxLen) (hl : 0 < s.size) (h1 : 248 ≤ (s[0].toNat : Int)) : SCAL s w (0, 0) := by
  unfold SCAL
  go_enter Tryd.func32, Tryd.ntmps32
  go_wp2
  go_ret2
  exact ⟨rfl, Below.refl _ _⟩

set_option maxRecDepth 100000 in
set_option maxHeartbeats 1000000 in
theorem scals2 (s : ByteArray) (w : World) (hs : s.size ≤ maxLen) (hl : 0 < s.size) (hl' : s.size < 2) (h1 : 192 ≤ (s[0].toNat : Int)) (h2 : (s[0].toNat : Int) < 224) : SCAL s w (0, 0) := by
  unfold SCAL
  unfold maxLen at hs
  go_enter Tryd.func32, Tryd.ntmps32
  go_wp2
  go_ret2
  exact ⟨rfl, Below.refl _ _⟩

set_option maxRecDepth 100000 in
set_option maxHeartbeats 1000000 in
theorem scal2 (s : ByteArray) (w : World) (hs : s.size ≤ maxLen) (hl : 2 ≤ s.size) (h1 : 192 ≤ (s[0].toNat : Int)) (h2 : (s[0].toNat : Int) < 224) :
    ∃ b : Bool, (b = true ↔ strOfNums (putI (cd2 (s[0].toNat : Int) (s[1].toNat : Int))) = s.extract 0 2) ∧ SCAL s w (cond b ((cd2 (s[0].toNat : Int) (s[1].toNat : Int)), 2) (0, 0)) := by
  unfold SCAL
  unfold maxLen at hs
  have hb1 : (s[1].toNat : Int) < 256 := by have := s[1].toNat_lt; omega
  refine ⟨(strOfNums (putI (cd2 (s[0].toNat : Int) (s[1].toNat : Int)))).toList == (s.extract 0 2).toList, str_iff _ _, ?_⟩
  obtain ⟨bb, hbb⟩ : ∃ bb, ((strOfNums (putI (cd2 (s[0].toNat : Int) (s[1].toNat : Int)))).toList == (s.extract 0 2).toList) = bb := ⟨_, rfl⟩
  rw [hbb]
  unfold cd2 at *
  go_enter Tryd.func32, Tryd.ntmps32
  go_wp2
  go_rounds 2
  go_region_with (go_at_call 31; refine (put_any _ _ (by omega) (by omega)).mono ?_; rintro e w' ⟨rfl, hbw⟩)
  cases bb
  all_goals
    go_wp2
    go_ret2
    exact ⟨rfl, ((Below.refl _ _).drew).trans hbw⟩

set_option maxRecDepth 100000 in
set_option maxHeartbeats 1000000 in
theorem scals3 (s : ByteArray) (w : World) (hs : s.size ≤ maxLen) (hl : 0 < s.size) (hl' : s.size < 3) (h1 : 224 ≤ (s[0].toNat : Int)) (h2 : (s[0].toNat : Int) < 240) : SCAL s w (0, 0) := by
  unfold SCAL
  unfold maxLen at hs
  go_enter Tryd.func32, Tryd.ntmps32
  go_wp2
  go_ret2
  exact ⟨rfl, Below.refl _ _⟩

set_option maxRecDepth 100000 in
set_option maxHeartbeats 1000000 in
theorem scal3 (s : ByteArray) (w : World) (hs : s.size ≤ maxLen) (hl : 3 ≤ s.size) (h1 : 224 ≤ (s[0].toNat : Int)) (h2 : (s[0].toNat : Int) < 240) :
    ∃ b : Bool, (b = true ↔ strOfNums (putI (cd3 (s[0].toNat : Int) (s[1].toNat : Int) (s[2].toNat : Int))) = s.extract 0 3) ∧ SCAL s w (cond b ((cd3 (s[0].toNat : Int) (s[1].toNat : Int) (s[2].toNat : Int)), 3) (0, 0)) := by
  unfold SCAL
  unfold maxLen at hs
  have hb1 : (s[1].toNat : Int) < 256 := by have := s[1].toNat_lt; omega
  have hb2 : (s[2].toNat : Int) < 256 := by have := s[2].toNat_lt; omega
  refine ⟨(strOfNums (putI (cd3 (s[0].toNat : Int) (s[1].toNat : Int) (s[2].toNat : Int)))).toList == (s.extract 0 3).toList, str_iff _ _, ?_⟩
  obtain ⟨bb, hbb⟩ : ∃ bb, ((strOfNums (putI (cd3 (s[0].toNat : Int) (s[1].toNat : Int) (s[2].toNat : Int)))).toList == (s.extract 0 3).toList) = bb := ⟨_, rfl⟩
  rw [hbb]
  unfold cd3 at *
  go_enter Tryd.func32, Tryd.ntmps32
  go_wp2
  go_rounds 3
  go_region_with (go_at_call 31; refine (put_any _ _ (by omega) (by omega)).mono ?_; rintro e w' ⟨rfl, hbw⟩)
  cases bb
  all_goals
    go_wp2
    go_ret2
    exact ⟨rfl, ((Below.refl _ _).drew).trans hbw⟩

set_option maxRecDepth 100000 in
set_option maxHeartbeats 1000000 in
theorem scals4 (s : ByteArray) (w : World) (hs : s.size ≤ maxLen) (hl : 0 < s.size) (hl' : s.size < 4) (h1 : 240 ≤ (s[0].toNat : Int)) (h2 : (s[0].toNat : Int) < 248) : SCAL s w (0, 0) := by
  unfold SCAL
  unfold maxLen at hs
  go_enter Tryd.func32, Tryd.ntmps32
  go_wp2
  go_ret2
  exact ⟨rfl, Below.refl _ _⟩

set_option maxRecDepth 100000 in
set_option maxHeartbeats 1000000 in
theorem scal4 (s : ByteArray) (w : World) (hs : s.size ≤ maxLen) (hl : 4 ≤ s.size) (h1 : 240 ≤ (s[0].toNat : Int)) (h2 : (s[0].toNat : Int) < 248) :
    ∃ b : Bool, (b = true ↔ strOfNums (putI (cd4 (s[0].toNat : Int) (s[1].toNat : Int) (s[2].toNat : Int) (s[3].toNat : Int))) = s.extract 0 4) ∧ SCAL s w (cond b ((cd4 (s[0].toNat : Int) (s[1].toNat : Int) (s[2].toNat : Int) (s[3].toNat : Int)), 4) (0, 0)) := by
  unfold SCAL
  unfold maxLen at hs
  have hb1 : (s[1].toNat : Int) < 256 := by have := s[1].toNat_lt; omega
  have hb2 : (s[2].toNat : Int) < 256 := by have := s[2].toNat_lt; omega
  have hb3 : (s[3].toNat : Int) < 256 := by have := s[3].toNat_lt; omega
  refine ⟨(strOfNums (putI (cd4 (s[0].toNat : Int) (s[1].toNat : Int) (s[2].toNat : Int) (s[3].toNat : Int)))).toList == (s.extract 0 4).toList, str_iff _ _, ?_⟩
  obtain ⟨bb, hbb⟩ : ∃ bb, ((strOfNums (putI (cd4 (s[0].toNat : Int) (s[1].toNat : Int) (s[2].toNat : Int) (s[3].toNat : Int)))).toList == (s.extract 0 4).toList) = bb := ⟨_, rfl⟩
  rw [hbb]
  unfold cd4 at *
  go_enter Tryd.func32, Tryd.ntmps32
  go_wp2
  go_rounds 4
  go_region_with (go_at_call 31; refine (put_any _ _ (by omega) (by omega)).mono ?_; rintro e w' ⟨rfl, hbw⟩)
  cases bb
  all_goals
    go_wp2
    go_ret2
    exact ⟨rfl, ((Below.refl _ _).drew).trans hbw⟩

/-- The i-th byte, as a number. -/
def bI (s : ByteArray) (i : Nat) : Int := ((s.data.toList.getD i 0).toNat : Int)
theorem bI_eq (s : ByteArray) (i : Nat) (h : i < s.size) : ((s[i]).toNat : Int) = bI s i := by
  have e : s.data.toList[i]? = some s[i] := by
    rw [List.getElem?_eq_getElem (by simpa using h)]; rfl
  simp [bI, List.getD, e]
def code2 (s : ByteArray) : Int := cd2 (bI s 0) (bI s 1)
def code3 (s : ByteArray) : Int := cd3 (bI s 0) (bI s 1) (bI s 2)
def code4 (s : ByteArray) : Int := cd4 (bI s 0) (bI s 1) (bI s 2) (bI s 3)
/-- With which scalar bytes begin, and how many bytes it has. -/
def scalM (s : ByteArray) : Int × Int :=
  if s.size = 0 then (0, 0) else if bI s 0 < 128 then (bI s 0, 1) else if bI s 0 < 192 then (0, 0)
  else if bI s 0 < 224 then (if s.size < 2 then (0, 0) else if strOfNums (putI (code2 s)) = s.extract 0 2 then (code2 s, 2) else (0, 0))
  else if bI s 0 < 240 then (if s.size < 3 then (0, 0) else if strOfNums (putI (code3 s)) = s.extract 0 3 then (code3 s, 3) else (0, 0))
  else if bI s 0 < 248 then (if s.size < 4 then (0, 0) else if strOfNums (putI (code4 s)) = s.extract 0 4 then (code4 s, 4) else (0, 0))
  else (0, 0)

theorem scal_any (s : ByteArray) (w : World) (hs : s.size ≤ maxLen) : SCAL s w (scalM s) := by
  unfold scalM code2 code3 code4
  by_cases h0 : s.size = 0
  · rw [if_pos h0]; exact scal0 s w hs h0
  · rw [if_neg h0]
    have hl : 0 < s.size := by omega
    have e0 := bI_eq s 0 hl
    by_cases h1 : bI s 0 < 128
    · rw [if_pos h1, ← e0]; exact scal1 s w hs hl (by omega)
    · rw [if_neg h1]
      by_cases h2 : bI s 0 < 192
      · rw [if_pos h2]; exact scalm s w hs hl (by omega) (by omega)
      · rw [if_neg h2]
        by_cases h3 : bI s 0 < 224
        · rw [if_pos h3]
          by_cases hn : s.size < 2
          · rw [if_pos hn]; exact scals2 s w hs hl hn (by omega) (by omega)
          · rw [if_neg hn]
            obtain ⟨b, hb, h⟩ := scal2 s w hs (by omega) (by omega) (by omega)
            rw [e0, bI_eq s 1 (by omega)] at h hb
            cases b
            · rw [if_neg (fun e => absurd (hb.2 e) (by decide))]; exact h
            · rw [if_pos (hb.1 rfl)]; exact h
        · rw [if_neg h3]
          by_cases h4 : bI s 0 < 240
          · rw [if_pos h4]
            by_cases hn : s.size < 3
            · rw [if_pos hn]; exact scals3 s w hs hl hn (by omega) (by omega)
            · rw [if_neg hn]
              obtain ⟨b, hb, h⟩ := scal3 s w hs (by omega) (by omega) (by omega)
              rw [e0, bI_eq s 1 (by omega), bI_eq s 2 (by omega)] at h hb
              cases b
              · rw [if_neg (fun e => absurd (hb.2 e) (by decide))]; exact h
              · rw [if_pos (hb.1 rfl)]; exact h
          · rw [if_neg h4]
            by_cases h5 : bI s 0 < 248
            · rw [if_pos h5]
              by_cases hn : s.size < 4
              · rw [if_pos hn]; exact scals4 s w hs hl hn (by omega) (by omega)
              · rw [if_neg hn]
                obtain ⟨b, hb, h⟩ := scal4 s w hs (by omega) (by omega) (by omega)
                rw [e0, bI_eq s 1 (by omega), bI_eq s 2 (by omega), bI_eq s 3 (by omega)] at h hb
                cases b
                · rw [if_neg (fun e => absurd (hb.2 e) (by decide))]; exact h
                · rw [if_pos (hb.1 rfl)]; exact h
            · rw [if_neg h5]; exact scalh s w hs hl (by omega)

/- ref09's Scalar and Put in the words of the ranges; plain. -/

theorem u8_of (x : Int) (a : UInt8) (h : 0 ≤ x) (h' : x < 256) : UInt8.ofNat x.toNat = a ↔ x = (a.toNat : Int) := by
  rw [← UInt8.toNat_inj]
  simp
  omega
theorem str_ext {xs : List Int} {s : ByteArray} {n : Nat} : strOfNums xs = s.extract 0 n ↔ (xs.map fun x => UInt8.ofNat x.toNat) = s.data.toList.take n := by
  rw [← strOfNums_data, ← ext_take]
  constructor
  · intro h; rw [h]
  · intro h; exact (bs_of h).trans (bs_of rfl).symm
theorem bI_bs (l : List UInt8) (i : Nat) : bI (bs l) i = ((l.getD i 0).toNat : Int) := by unfold bI; rw [bs_list]
theorem sz_bs (l : List UInt8) : (bs l).size = l.length := by rw [← len_toList, bs_list]
theorem put2 (a b : UInt8) (r : List UInt8) (h1 : 192 ≤ (a.toNat : Int)) (h2 : (a.toNat : Int) < 224) :
    strOfNums (putI (cd2 (a.toNat : Int) (b.toNat : Int))) = (bs (a :: b :: r)).extract 0 2 ↔ (194 ≤ (a.toNat : Int) ∧ 128 ≤ (b.toNat : Int) ∧ (b.toNat : Int) ≤ 191) := by
  have hb := b.toNat_lt
  rw [str_ext, bs_list]
  unfold putI cd2
  rw [if_neg (by omega)]
  by_cases h3 : ((a.toNat : Int) - 192) * 64 + (b.toNat : Int) % 64 < 128
  · rw [if_pos h3]
    constructor
    · intro h; have := congrArg List.length h; simp at this
    · intro h; omega
  · rw [if_neg h3, if_pos (by omega)]
    simp only [List.map_cons, List.map_nil, List.take_succ_cons, List.take_zero, List.cons.injEq, and_true]
    rw [u8_of _ _ (by omega) (by omega), u8_of _ _ (by omega) (by omega)]
    constructor
    · intro h; omega
    · intro h; omega
theorem put3 (a b c : UInt8) (r : List UInt8) (h1 : 224 ≤ (a.toNat : Int)) (h2 : (a.toNat : Int) < 240) :
    strOfNums (putI (cd3 (a.toNat : Int) (b.toNat : Int) (c.toNat : Int))) = (bs (a :: b :: c :: r)).extract 0 3 ↔
    ((if (a.toNat : Int) = 224 then 160 else 128) ≤ (b.toNat : Int) ∧ (b.toNat : Int) ≤ (if (a.toNat : Int) = 237 then 159 else 191) ∧ 128 ≤ (c.toNat : Int) ∧ (c.toNat : Int) ≤ 191) := by
  have hb := b.toNat_lt
  have hc := c.toNat_lt
  rw [str_ext, bs_list]
  unfold putI cd3
  obtain ⟨v, hv⟩ : ∃ v, (((a.toNat : Int) - 224) * 64 + (b.toNat : Int) % 64) * 64 + (c.toNat : Int) % 64 = v := ⟨_, rfl⟩
  rw [hv]
  by_cases h3 : v < 0 ∨ 1114111 < v ∨ (55296 ≤ v ∧ v ≤ 57343)
  · rw [if_pos h3]
    constructor
    · intro h; have := congrArg List.length h; simp at this
    · intro h; exfalso; have k1 := h.1; have k2 := h.2.1; split at k1 <;> split at k2 <;> omega
  · rw [if_neg h3]
    by_cases h4 : v < 128
    · rw [if_pos h4]
      constructor
      · intro h; have := congrArg List.length h; simp at this
      · intro h; exfalso; have k1 := h.1; have k2 := h.2.1; split at k1 <;> split at k2 <;> omega
    · rw [if_neg h4]
      by_cases h5 : v < 2048
      · rw [if_pos h5]
        constructor
        · intro h; have := congrArg List.length h; simp at this
        · intro h; exfalso; have k1 := h.1; have k2 := h.2.1; split at k1 <;> split at k2 <;> omega
      · rw [if_neg h5, if_pos (by omega)]
        simp only [List.map_cons, List.map_nil, List.take_succ_cons, List.take_zero, List.cons.injEq, and_true]
        rw [u8_of _ _ (by omega) (by omega), u8_of _ _ (by omega) (by omega), u8_of _ _ (by omega) (by omega)]
        constructor
        · intro h
          refine ⟨?_, ?_, by omega, by omega⟩
          · split <;> omega
          · split <;> omega
        · intro h; have k1 := h.1; have k2 := h.2.1
          split at k1 <;> split at k2 <;> omega
theorem put4 (a b c d : UInt8) (r : List UInt8) (h1 : 240 ≤ (a.toNat : Int)) (h2 : (a.toNat : Int) < 248) :
    strOfNums (putI (cd4 (a.toNat : Int) (b.toNat : Int) (c.toNat : Int) (d.toNat : Int))) = (bs (a :: b :: c :: d :: r)).extract 0 4 ↔
    ((a.toNat : Int) ≤ 244 ∧ (if (a.toNat : Int) = 240 then 144 else 128) ≤ (b.toNat : Int) ∧ (b.toNat : Int) ≤ (if (a.toNat : Int) = 244 then 143 else 191) ∧ 128 ≤ (c.toNat : Int) ∧ (c.toNat : Int) ≤ 191 ∧ 128 ≤ (d.toNat : Int) ∧ (d.toNat : Int) ≤ 191) := by
  have hb := b.toNat_lt
  have hc := c.toNat_lt
  have hd := d.toNat_lt
  rw [str_ext, bs_list]
  unfold putI cd4
  obtain ⟨v, hv⟩ : ∃ v, ((((a.toNat : Int) - 240) * 64 + (b.toNat : Int) % 64) * 64 + (c.toNat : Int) % 64) * 64 + (d.toNat : Int) % 64 = v := ⟨_, rfl⟩
  rw [hv]
  by_cases h3 : v < 0 ∨ 1114111 < v ∨ (55296 ≤ v ∧ v ≤ 57343)
  · rw [if_pos h3]
    constructor
    · intro h; have := congrArg List.length h; simp at this
    · intro h; exfalso; have k1 := h.2.1; have k2 := h.2.2.1; split at k1 <;> split at k2 <;> omega
  · rw [if_neg h3]
    by_cases h4 : v < 65536
    · constructor
      · intro h
        exfalso
        have := congrArg List.length h
        simp only [List.length_map, List.length_take, List.length_cons] at this
        revert this
        (repeat' split) <;> simp <;> omega
      · intro h; exfalso; have k1 := h.2.1; have k2 := h.2.2.1; split at k1 <;> split at k2 <;> omega
    · rw [if_neg (by omega), if_neg (by omega), if_neg h4]
      simp only [List.map_cons, List.map_nil, List.take_succ_cons, List.take_zero, List.cons.injEq, and_true]
      rw [u8_of _ _ (by omega) (by omega), u8_of _ _ (by omega) (by omega), u8_of _ _ (by omega) (by omega), u8_of _ _ (by omega) (by omega)]
      constructor
      · intro h
        refine ⟨by omega, ?_, ?_, by omega, by omega, by omega, by omega⟩
        · split <;> omega
        · split <;> omega
      · intro h; have k1 := h.2.1; have k2 := h.2.2.1
        split at k1 <;> split at k2 <;> omega
theorem scalM_V (s : ByteArray) : scalM s = scalV s.data.toList := by
  obtain ⟨l, hl⟩ : ∃ l, s.data.toList = l := ⟨_, rfl⟩
  obtain rfl : s = bs l := bs_of hl
  rw [bs_list]
  unfold scalM code2 code3 code4
  simp only [bI_bs, sz_bs]
  match l with
  | [] => rfl
  | a :: l =>
    have ha := a.toNat_lt
    rw [if_neg (by simp)]
    unfold scalV
    simp only [List.getD_cons_zero]
    by_cases h1 : (a.toNat : Int) < 128
    · rw [if_pos h1, if_pos h1]
    · rw [if_neg h1, if_neg h1]
      by_cases h2 : (a.toNat : Int) < 192
      · rw [if_pos h2, if_neg (by omega), if_neg (by omega), if_neg (by omega)]
      · rw [if_neg h2]
        by_cases h3 : (a.toNat : Int) < 224
        · rw [if_pos h3]
          match l with
          | [] =>
            rw [if_pos (by simp)]
            (repeat' split) <;> first | rfl | (exfalso; simp_all; done) | omega
          | b :: r =>
            rw [if_neg (by simp)]
            simp only [List.getD_cons_succ, List.getD_cons_zero]
            by_cases hC : 194 ≤ (a.toNat : Int) ∧ 128 ≤ (b.toNat : Int) ∧ (b.toNat : Int) ≤ 191
            · rw [if_pos ((put2 a b r (by omega) h3).2 hC), if_pos (show 194 ≤ (a.toNat : Int) ∧ (a.toNat : Int) ≤ 223 by omega), if_pos (show 128 ≤ (b.toNat : Int) ∧ (b.toNat : Int) ≤ 191 by omega)]
              unfold cd2
              rw [show (b.toNat : Int) % 64 = (b.toNat : Int) - 128 by omega]
            · rw [if_neg (fun h => hC ((put2 a b r (by omega) h3).1 h))]
              by_cases h4 : 194 ≤ (a.toNat : Int) ∧ (a.toNat : Int) ≤ 223
              · rw [if_pos h4, if_neg (by omega)]
              · rw [if_neg h4, if_neg (by omega), if_neg (by omega)]
        · rw [if_neg h3]
          rw [if_neg (show ¬ (194 ≤ (a.toNat : Int) ∧ (a.toNat : Int) ≤ 223) by omega)]
          by_cases h4 : (a.toNat : Int) < 240
          · rw [if_pos h4, if_pos (show 224 ≤ (a.toNat : Int) ∧ (a.toNat : Int) ≤ 239 by omega)]
            match l with
            | [] => rw [if_pos (by simp)]
            | [_] => rw [if_pos (by simp)]
            | b :: c :: r =>
              rw [if_neg (by simp)]
              simp only [List.getD_cons_succ, List.getD_cons_zero]
              by_cases hC : (if (a.toNat : Int) = 224 then 160 else 128) ≤ (b.toNat : Int) ∧ (b.toNat : Int) ≤ (if (a.toNat : Int) = 237 then 159 else 191) ∧ 128 ≤ (c.toNat : Int) ∧ (c.toNat : Int) ≤ 191
              · rw [if_pos ((put3 a b c r (by omega) h4).2 hC), if_pos hC]
                unfold cd3
                have k1 := hC.1
                have k2 := hC.2.1
                have e1 : (b.toNat : Int) % 64 = (b.toNat : Int) - 128 := by split at k1 <;> split at k2 <;> omega
                have e2 : (c.toNat : Int) % 64 = (c.toNat : Int) - 128 := by omega
                rw [e1, e2]
              · rw [if_neg (fun h => hC ((put3 a b c r (by omega) h4).1 h)), if_neg hC]
          · rw [if_neg h4, if_neg (show ¬ (224 ≤ (a.toNat : Int) ∧ (a.toNat : Int) ≤ 239) by omega)]
            by_cases h5 : (a.toNat : Int) < 248
            · rw [if_pos h5]
              match l with
              | [] => rw [if_pos (by simp)]; (repeat' split) <;> first | rfl | (exfalso; simp_all; done)
              | [_] => rw [if_pos (by simp)]; (repeat' split) <;> first | rfl | (exfalso; simp_all; done)
              | [_, _] => rw [if_pos (by simp)]; (repeat' split) <;> first | rfl | (exfalso; simp_all; done)
              | b :: c :: d :: r =>
                rw [if_neg (by simp)]
                simp only [List.getD_cons_succ, List.getD_cons_zero]
                by_cases hC : (a.toNat : Int) ≤ 244 ∧ (if (a.toNat : Int) = 240 then 144 else 128) ≤ (b.toNat : Int) ∧ (b.toNat : Int) ≤ (if (a.toNat : Int) = 244 then 143 else 191) ∧ 128 ≤ (c.toNat : Int) ∧ (c.toNat : Int) ≤ 191 ∧ 128 ≤ (d.toNat : Int) ∧ (d.toNat : Int) ≤ 191
                · rw [if_pos ((put4 a b c d r (by omega) h5).2 hC), if_pos (show 240 ≤ (a.toNat : Int) ∧ (a.toNat : Int) ≤ 244 by omega), if_pos hC.2]
                  unfold cd4
                  have k1 := hC.2.1
                  have k2 := hC.2.2.1
                  have e1 : (b.toNat : Int) % 64 = (b.toNat : Int) - 128 := by split at k1 <;> split at k2 <;> omega
                  have e2 : (c.toNat : Int) % 64 = (c.toNat : Int) - 128 := by omega
                  have e3 : (d.toNat : Int) % 64 = (d.toNat : Int) - 128 := by omega
                  rw [e1, e2, e3]
                · rw [if_neg (fun h => hC ((put4 a b c d r (by omega) h5).1 h))]
                  by_cases h6 : 240 ≤ (a.toNat : Int) ∧ (a.toNat : Int) ≤ 244
                  · rw [if_pos h6, if_neg (fun h => hC ⟨h6.2, h⟩)]
                  · rw [if_neg h6]
            · rw [if_neg h5, if_neg (by omega)]
/-- With which scalar bytes begin (the reference's own). -/
theorem rscal_at (s : ByteArray) (c n : Int) (w : World) (hs : s.size ≤ maxLen) (h : Hid (scalV s.data.toList = (c, n))) :
    Calls Tryd.prog 32 #[.string s] w fun e w' => e = .returned (.tuple #[.int .i64 c, .int .i64 n]) ∧ Below w.heap.size w w' := by
  have := scal_any s w hs
  unfold SCAL at this
  rw [scalM_V, h.out] at this; exact this
theorem rput_at (c : Int) (w : World) (h : okS c) :
    Calls Tryd.prog 31 #[.int .i64 c] w fun e w' => e = .returned (.string (bs (putV c))) ∧ Below w.heap.size w w' := by
  have h' := h
  unfold okS at h'
  rw [← put_val c h]; exact put_any c w h'.1 (by omega)
theorem scalV_z (l : List UInt8) (h : (scalV l).2 = 0) : scalV l = (0, 0) := by
  have key : ∀ x : Int × Int, (x = (0, 0) ∨ x.2 ≠ 0) → x.2 = 0 → x = (0, 0) := fun x h1 h2 => h1.resolve_right (fun h3 => h3 h2)
  refine key _ ?_ h
  clear h
  cases l with
  | nil => exact .inl rfl
  | cons b0 r =>
    unfold scalV
    simp only
    (repeat' split) <;> first | exact .inl rfl | exact .inr (by simp)

/- ref16: hex, unit. -/

theorem hexI (c : UInt8) : uval (hexV c) = if 48 ≤ (c.toNat : Int) ∧ (c.toNat : Int) ≤ 57 then (c.toNat : Int) - 48 else if 97 ≤ (c.toNat : Int) ∧ (c.toNat : Int) ≤ 102 then (c.toNat : Int) - 87 else if 65 ≤ (c.toNat : Int) ∧ (c.toNat : Int) ≤ 70 then (c.toNat : Int) - 55 else -1 := by
  unfold hexV uval
  by_cases h1 : 48 ≤ c.toNat ∧ c.toNat ≤ 57
  · rw [if_pos h1, if_pos (show (48 ≤ (c.toNat : Int) ∧ (c.toNat : Int) ≤ 57) by omega)]; rfl
  · rw [if_neg h1, if_neg (show ¬ (48 ≤ (c.toNat : Int) ∧ (c.toNat : Int) ≤ 57) by omega)]
    by_cases h2 : 97 ≤ c.toNat ∧ c.toNat ≤ 102
    · rw [if_pos h2, if_pos (show (97 ≤ (c.toNat : Int) ∧ (c.toNat : Int) ≤ 102) by omega)]; rfl
    · rw [if_neg h2, if_neg (show ¬ (97 ≤ (c.toNat : Int) ∧ (c.toNat : Int) ≤ 102) by omega)]
      by_cases h3 : 65 ≤ c.toNat ∧ c.toNat ≤ 70
      · rw [if_pos h3, if_pos (show (65 ≤ (c.toNat : Int) ∧ (c.toNat : Int) ≤ 70) by omega)]; rfl
      · rw [if_neg h3, if_neg (show ¬ (65 ≤ (c.toNat : Int) ∧ (c.toNat : Int) ≤ 70) by omega)]; rfl
theorem uval_bd (c : UInt8) : -1 ≤ uval (hexV c) ∧ uval (hexV c) < 16 := by
  rw [hexI]; (repeat' split) <;> omega

set_option maxHeartbeats 400000 in
theorem rhex_any (c : UInt8) (w : World) :
    Calls Tryd.prog 62 #[.int .u8 (c.toNat : Int)] w fun e w' => e = .returned (.int .i64 (uval (hexV c))) ∧ w = w' := by
  have hc := c.toNat_lt
  have HE := Lib.hid (hexI c)
  go_enter Tryd.func62, Tryd.ntmps62
  go_wp2
  all_goals (go_ret; exact ⟨ret_int (by rw [HE.out]; (repeat' split) <;> omega), rfl⟩)
theorem rhex_at (c : UInt8) (d : Int) (w : World) (h : Hid (uval (hexV c) = d)) :
    Calls Tryd.prog 62 #[.int .u8 (c.toNat : Int)] w fun e w' => e = .returned (.int .i64 d) ∧ w = w' := by
  rw [← h.out]; exact rhex_any c w

/-- 5c, u and four digits. -/
def runitV (l : List UInt8) : Option Int := if hd l 92 && hd (l.drop 1) 117 then unitV (l.drop 2) else none
theorem runitV_bd (l : List UInt8) : -1 ≤ uval (runitV l) ∧ uval (runitV l) < 65536 := by
  unfold runitV
  split
  · cases h : unitV (l.drop 2) with
    | none => unfold uval; simp
    | some a => have := unitV_bd h; unfold uval; simp; omega
  · unfold uval; simp

set_option maxRecDepth 100000 in
set_option maxHeartbeats 2000000 in
theorem runit_at (s : ByteArray) (a : Nat) (u : Int) (w : World) (hs : s.size ≤ 1000000) (ha : a ≤ s.size + 6) (h : Hid (uval (runitV (dr s a)) = u)) :
    Calls Tryd.prog 47 #[.string s, .int .i64 (a : Int)] w fun e w' => e = .returned (.int .i64 u) ∧ w = w' := by
  by_cases h6 : s.size < a + 6
  · have HE := Lib.hid (show u = -1 by
      rw [← h.out]; unfold runitV
      simp only [dr_dr]
      rw [unit_short (dr s (a + 2)) (by unfold dr; rw [List.length_drop, len_toList]; omega)]
      split <;> rfl)
    have h6' : (s.size : Int) - (a : Int) < 6 := by omega
    clear h6
    go_enter Tryd.func47, Tryd.ntmps47
    go_wp2
    go_ret
    exact ⟨ret_int (by rw [HE.out]), rfl⟩
  · have h6' : ¬ (s.size : Int) - (a : Int) < 6 := by omega
    have e0 : dr s a = s[a] :: dr s (a + 1) := drop_cons s a (by omega)
    have e1 : dr s (a + 1) = s[a + 1] :: dr s (a + 2) := drop_cons s (a + 1) (by omega)
    have hb0 := s[a].toNat_lt
    have hb1 := s[a + 1].toNat_lt
    by_cases c0 : s[a] = 92
    · by_cases c1 : s[a + 1] = 117
      · have t0 : ((s[a].toNat : Int) != 92) = false := by rw [c0]; rfl
        have t1 : ((s[a + 1].toNat : Int) != 117) = false := by rw [c1]; rfl
        have HU := Lib.hid (show u = uval (hexF 4 (dr s (a + 2)) 0) by
          rw [← h.out, ← unit_hexF _ (by unfold dr; rw [List.length_drop, len_toList]; omega)]
          unfold runitV
          simp only [dr_dr]
          rw [e0, e1]
          rw [if_pos (by rw [c0, c1]; rfl)])
        clear c0 c1 e0 e1
        go_enter Tryd.func47, Tryd.ntmps47
        go_wp2
        go_loop [5, 6] (fun x v => ∃ (i : Nat) (n : Int), 2 ≤ i ∧ i ≤ 6 ∧ 0 ≤ n ∧ ((i = 2 ∧ n < 1) ∨ (i = 3 ∧ n < 16) ∨ (i = 4 ∧ n < 256) ∨ (i = 5 ∧ n < 4096) ∨ (i = 6 ∧ n < 65536)) ∧ Hid (u = uval (hexF (6 - i) (dr s (a + i)) n)) ∧ x = .int .i64 n ∧ v = .int .i64 i) (fun _ v => 6 - (intOf v).toNat)
        case atStart => exact ⟨2, 0, by omega, by omega, by omega, .inl ⟨rfl, by omega⟩, HU, rfl, rfl⟩
        case round =>
          clear HU
          obtain ⟨i, n, hi2, hi, hn0, hn, HF, rfl, rfl⟩ := hrel
          have HN := Lib.hid hn
          have hn1 : n < 65536 := by omega
          clear hn
          by_cases hlt : i < 6
          · have hlt2 : a + i < s.size := by omega
            have hbi := s[a + i].toNat_lt
            obtain ⟨d, hd⟩ : ∃ d, uval (hexV s[a + i]) = d := ⟨_, rfl⟩
            obtain ⟨hd0, hd1⟩ := uval_bd s[a + i]
            rw [hd] at hd0 hd1
            have hstep : hexF (6 - i) (dr s (a + i)) n = match hexV s[a + i] with | some d => hexF (6 - (i + 1)) (dr s (a + (i + 1))) (n * 16 + d) | none => none := by
              rw [show 6 - i = (6 - (i + 1)) + 1 by omega, show dr s (a + i) = s[a + i] :: dr s (a + i + 1) from drop_cons s (a + i) hlt2]; rfl
            have HD := Lib.hid hd
            by_cases h1 : d < 0
            · have HE := Lib.hid (show u = -1 by
                rw [HF.out, hstep]
                cases hx : hexV s[a + i] with
                | none => rfl
                | some y => rw [hx] at hd; have := hexV_bd hx; unfold uval at hd; simp at hd; omega)
              clear hstep hd HF
              go_wp2_with (go_at_call 62; refine (rhex_at _ _ _ HD).mono ?_; rintro e w' ⟨rfl, rfl⟩)
              go_ret
              exact ⟨ret_int (by rw [HE.out]), rfl⟩
            · have HF := Lib.hid (show u = uval (hexF (6 - (i + 1)) (dr s (a + (i + 1))) (n * 16 + d)) by
                rw [HF.out, hstep]
                cases hx : hexV s[a + i] with
                | none => rw [hx] at hd; unfold uval at hd; simp at hd; omega
                | some y => rw [hx] at hd; unfold uval at hd; simp at hd; rw [hd])
              have h3 : 0 ≤ d := by omega
              have HN2 := Lib.hid (show (i + 1 = 2 ∧ n * 16 + d < 1) ∨ (i + 1 = 3 ∧ n * 16 + d < 16) ∨ (i + 1 = 4 ∧ n * 16 + d < 256) ∨ (i + 1 = 5 ∧ n * 16 + d < 4096) ∨ (i + 1 = 6 ∧ n * 16 + d < 65536) by have := HN.out; omega)
              clear hstep hd
              go_wp2_with (go_at_call 62; refine (rhex_at _ _ _ HD).mono ?_; rintro e w' ⟨rfl, rfl⟩)
              go_round
              case rel => exact ⟨i + 1, n * 16 + d, by omega, by omega, by omega, HN2.out, HF, rfl, by go_num⟩
              case measure => simp [intOf] <;> omega
          · have HE := Lib.hid (show u = n by rw [HF.out, show 6 - i = 0 by omega]; rfl)
            go_wp2
            go_ret
            exact ⟨ret_int (by rw [HE.out]), rfl⟩
      · have t0 : ((s[a].toNat : Int) != 92) = false := by rw [c0]; rfl
        have t1 : ((s[a + 1].toNat : Int) != 117) = true := by rw [bne_iff_ne]; intro e; apply c1; rw [← UInt8.toNat_inj]; simp; omega
        have HE := Lib.hid (show u = -1 by
          rw [← h.out]; unfold runitV
          simp only [dr_dr]
          rw [e0, e1, if_neg]
          · rfl
          · simp [hd, c1])
        clear c0 c1 e0 e1
        go_enter Tryd.func47, Tryd.ntmps47
        go_wp2
        go_ret
        exact ⟨ret_int (by rw [HE.out]), rfl⟩
    · have t0 : ((s[a].toNat : Int) != 92) = true := by rw [bne_iff_ne]; intro e; apply c0; rw [← UInt8.toNat_inj]; simp; omega
      have HE := Lib.hid (show u = -1 by
        rw [← h.out]; unfold runitV
        simp only [dr_dr]
        rw [e0, if_neg]
        · rfl
        · simp [hd, c0])
      clear c0 e0 e1
      go_enter Tryd.func47, Tryd.ntmps47
      go_wp2
      go_ret
      exact ⟨ret_int (by rw [HE.out]), rfl⟩

/- ref16: Name, digits. -/

set_option maxRecDepth 100000 in
set_option maxHeartbeats 1000000 in
theorem rdigits_any (s : ByteArray) (a : Nat) (w : World) (hs : s.size ≤ 1000000) (ha : a ≤ s.size) :
    Calls Tryd.prog 21 #[.string s, .int .i64 (a : Int)] w fun e w' => e = .returned (.int .i64 (digN (dr s a) : Nat)) ∧ w = w' := by
  have hdb := digN_bd s a ha
  go_enter Tryd.func21, Tryd.ntmps21
  go_wp2
  go_loop [5] (fun v => ∃ i : Nat, a + i ≤ s.size ∧ v = .int .i64 i ∧ Hid (digN (dr s a) = i + digN (dr s (a + i)))) (fun v => s.size - (a + (intOf v).toNat))
  case atStart => exact ⟨0, by omega, rfl, Lib.hid (by simp)⟩
  case round =>
    obtain ⟨i, hi, rfl, HI⟩ := hrel
    by_cases hlt : a + i < s.size
    · have hbi := s[a + i].toNat_lt
      by_cases h1 : (s[a + i].toNat : Int) < 48
      · have HE := Lib.hid (show digN (dr s a) = i by rw [HI.out, dig_stop (fun _ => by unfold digB; simp; omega)]; rfl)
        go_wp2
        go_ret
        exact ⟨ret_int (by rw [HE.out]), rfl⟩
      · by_cases h2 : 57 < (s[a + i].toNat : Int)
        · have HE := Lib.hid (show digN (dr s a) = i by rw [HI.out, dig_stop (fun _ => by unfold digB; simp; omega)]; rfl)
          go_wp2
          go_ret
          exact ⟨ret_int (by rw [HE.out]), rfl⟩
        · have HI := Lib.hid (show digN (dr s a) = (i + 1) + digN (dr s (a + (i + 1))) by rw [HI.out, dig_step hlt (by unfold digB; simp; omega), Nat.add_assoc a i 1]; omega)
          go_wp2
          go_round
          case rel => exact ⟨i + 1, by omega, by go_num, HI⟩
          case measure => simp [intOf] <;> omega
    · have HE := Lib.hid (show digN (dr s a) = i by rw [HI.out, dig_stop (fun h => absurd h hlt)]; rfl)
      go_wp2
      go_ret
      exact ⟨ret_int (by rw [HE.out]), rfl⟩
theorem rdigits_at (s : ByteArray) (a d : Nat) (w : World) (hs : s.size ≤ 1000000) (ha : a ≤ s.size) (h : Hid (digN (dr s a) = d)) :
    Calls Tryd.prog 21 #[.string s, .int .i64 (a : Int)] w fun e w' => e = .returned (.int .i64 (d : Nat)) ∧ w = w' := by
  rw [← h.out]; exact rdigits_any s a w hs ha

/-- A scalar of one byte. -/
theorem scal_asc (b : UInt8) (r : List UInt8) (h : (b.toNat : Int) < 128) : scalV (b :: r) = ((b.toNat : Int), 1) := by unfold scalV; simp only; rw [if_pos h]
theorem scal_low {b : UInt8} {r : List UInt8} (h : (scalV (b :: r)).1 < 128) (hn : (scalV (b :: r)).2 ≠ 0) : (b.toNat : Int) < 128 := by
  rcases Int.lt_or_le (b.toNat : Int) 128 with h1 | h1
  · exact h1
  · exfalso
    have key : ∀ x : Int × Int, (x = (0, 0) ∨ 128 ≤ x.1) → x.1 < 128 → x.2 ≠ 0 → False := by
      rintro x (rfl | h2) h3 h4
      · exact h4 rfl
      · omega
    refine key _ ?_ h hn
    clear h hn
    unfold scalV
    simp only
    rw [if_neg (by omega)]
    refine ite_P (fun x : Int × Int => x = (0, 0) ∨ 128 ≤ x.1) (fun h => ?_) (fun h => ?_)
    · cases r with
      | nil => exact .inl rfl
      | cons b1 r => exact ite_P (fun x : Int × Int => x = (0, 0) ∨ 128 ≤ x.1) (fun h2 => .inr (by simp only; omega)) (fun _ => .inl rfl)
    · refine ite_P (fun x : Int × Int => x = (0, 0) ∨ 128 ≤ x.1) (fun h => ?_) (fun h => ?_)
      · match r with
        | [] => exact .inl rfl
        | [_] => exact .inl rfl
        | b1 :: b2 :: r =>
          refine ite_P (fun x : Int × Int => x = (0, 0) ∨ 128 ≤ x.1) (fun h2 => .inr ?_) (fun _ => .inl rfl)
          have k1 := h2.1
          have k2 := h2.2.1
          split at k1 <;> split at k2 <;> (simp only; omega)
      · refine ite_P (fun x : Int × Int => x = (0, 0) ∨ 128 ≤ x.1) (fun h => ?_) (fun _ => .inl rfl)
        match r with
        | [] => exact .inl rfl
        | [_] => exact .inl rfl
        | [_, _] => exact .inl rfl
        | b1 :: b2 :: b3 :: r =>
          refine ite_P (fun x : Int × Int => x = (0, 0) ∨ 128 ≤ x.1) (fun h2 => .inr ?_) (fun _ => .inl rfl)
          have k1 := h2.1
          have k2 := h2.2.1
          split at k1 <;> split at k2 <;> (simp only; omega)
/-- How a name goes on: at its first letter, or behind it. -/
def nmS (s : ByteArray) (a p f : Nat) : Prop := (p = a ∧ s.size ≤ a + f) ∨ (a < p ∧ s.size ≤ p + f ∧ a + nameL (dr s a) = p + namF f (dr s p))
theorem nmS_let {s : ByteArray} {a p f m : Nat} (h : nmS s a p f) (hp : p < s.size) (hl : letL (dr s p) = m) (hm : 0 < m) : ∃ f', nmS s a (p + m) f' := by
  rcases h with ⟨rfl, hf⟩ | ⟨h1, hf, h2⟩
  · refine ⟨(dr s p).length, .inr ⟨by omega, ?_, ?_⟩⟩
    · unfold dr; rw [List.length_drop, len_toList]; omega
    · unfold nameL; rw [hl, if_neg (by omega), dr_dr]; omega
  · obtain ⟨f', rfl⟩ : ∃ f', f = f' + 1 := ⟨f - 1, by omega⟩
    refine ⟨f', .inr ⟨by omega, by omega, ?_⟩⟩
    have hr : letR (dr s p) = m := by unfold letR; rw [hl, if_neg (by omega)]
    rw [h2, namF_go f' _ m hr (by omega), dr_dr]; omega
theorem nmS_dig {s : ByteArray} {a p f : Nat} (h : nmS s a p f) (hap : a < p) (hp : p < s.size) (hl : letL (dr s p) = 0) (hd : isDig s[p] = true) : ∃ f', nmS s a (p + 1) f' := by
  rcases h with ⟨rfl, hf⟩ | ⟨h1, hf, h2⟩
  · omega
  · obtain ⟨f', rfl⟩ : ∃ f', f = f' + 1 := ⟨f - 1, by omega⟩
    refine ⟨f', .inr ⟨by omega, by omega, ?_⟩⟩
    have hr : letR (dr s p) = 1 := by unfold letR; rw [hl, if_pos rfl, dr, drop_cons s p hp]; simp only; rw [if_pos hd]
    rw [h2, namF_go f' _ 1 hr (by omega), dr_dr]; omega
theorem nmS_stop {s : ByteArray} {a p f : Nat} (h : nmS s a p f) (hl : letL (dr s p) = 0) (hd : p = a ∨ ∀ h : p < s.size, isDig s[p] = false) : a + nameL (dr s a) = p := by
  rcases h with ⟨rfl, hf⟩ | ⟨h1, hf, h2⟩
  · unfold nameL; rw [hl, if_pos rfl]; rfl
  · have hr : letR (dr s p) = 0 := by
      unfold letR; rw [hl, if_pos rfl]
      rcases Nat.lt_or_ge p s.size with h3 | h3
      · rw [dr, drop_cons s p h3]; simp only
        rw [hd.resolve_left (by omega) h3]; rfl
      · rw [dr, drop_nil s p h3]
    rw [h2, namF_stop _ _ hr]; rfl

set_option maxRecDepth 100000 in
set_option maxHeartbeats 4000000 in
theorem rname_any (s : ByteArray) (a : Nat) (w : World) (hs : s.size ≤ 1000000) (ha : a ≤ s.size) :
    Calls Tryd.prog 20 #[.string s, .int .i64 (a : Int)] w fun e w' => e = .returned (.int .i64 ((a + nameL (dr s a) : Nat) : Int)) ∧ Bel w.heap.size w w' := by
  have HB := Lib.hid (Bel.refl w.heap.size w)
  go_enter Tryd.func20, Tryd.ntmps20
  go_wp2
  go_loopg [1] (s.size - a) (fun k x wr => ∃ (p f : Nat), k = s.size - p ∧ a ≤ p ∧ p ≤ s.size ∧ x = .int .i64 p ∧ Hid (nmS s a p f) ∧ Hid (Bel w.heap.size w wr))
  case atStart => exact ⟨a, s.size, rfl, by omega, by omega, rfl, Lib.hid (.inl ⟨rfl, by omega⟩), HB⟩
  case round =>
    clear HB
    obtain ⟨p, f, hgk, hap, hp, rfl, HN, HB⟩ := hrel
    have HGK := Lib.hid hgk; clear hgk
    by_cases hlt : p < s.size
    · have hzp : (s.extract p s.size).size ≤ maxLen := by simp; unfold maxLen; omega
      obtain ⟨c, n, hcn⟩ : ∃ c n, scalV (dr s p) = (c, n) := ⟨_, _, rfl⟩
      have hl := scalV_len (dr s p)
      have hz := scalV_z (dr s p)
      have hlo := @scal_low s[p] (dr s (p + 1))
      have has := scal_asc s[p] (dr s (p + 1))
      have e0 : dr s p = s[p] :: dr s (p + 1) := drop_cons s p hlt
      rw [← e0] at hlo has
      have hLL : letL (dr s p) = if isLet c && decide (0 < n) then n.toNat else 0 := by unfold letL; rw [hcn]
      rw [hcn] at hl hz hlo has
      simp only at hl hz hlo
      have HSC := Lib.hid (show scalV (s.extract p s.size).data.toList = (c, n) by rw [ext_drop]; exact hcn)
      obtain ⟨hn0, hnl, hc0⟩ := hl
      rw [dr, List.length_drop, len_toList] at hnl
      have HLL := Lib.hid hLL
      have HZ := Lib.hid hz
      have HLO := Lib.hid hlo
      have HAS := Lib.hid has
      clear hz hlo has hLL hcn e0
      go_upto_region 4 with (go_at_call 32; refine (rscal_at _ _ _ _ hzp HSC).mono ?_; rintro e w1 ⟨rfl, hbw⟩; have HB1 := Lib.hid (HB.out.next (Bel.of hbw)); clear hbw)
      go_cut [8] (fun b wx => b = .bool (isLet c) ∧ w1 = wx)
      case first =>
        obtain ⟨z, hz⟩ : ∃ z, (c == 95) = z := ⟨_, rfl⟩
        have HZ5 := Lib.hid (show z = decide (c = 95) by rw [← hz, Bool.eq_iff_iff]; simp)
        cases z
        all_goals
          go_wp2
          all_goals
            go_meet
            case rel =>
              refine ⟨congrArg Value.bool ?_, rfl⟩
              have hz5 := HZ5.out
              simp only [eq_comm (a := true), eq_comm (a := false), decide_eq_true_eq, decide_eq_false_iff_not] at hz5
              unfold isLet
              refine Bool.eq_iff_iff.2 ?_
              simp <;> omega
      case rest =>
        obtain ⟨rfl, rfl⟩ := hcut
        cases hb : isLet c with
        | true =>
          have hn : n ≠ 0 := by
            intro hn
            have := HZ.out hn
            injection this with h3 h4
            rw [h3] at hb; exact absurd hb (by decide)
          have hn1 : (n == 0) = false := by rw [beq_eq_false_iff_ne]; exact hn
          obtain ⟨m, rfl⟩ := Int.eq_ofNat_of_zero_le hn0
          have hm : 0 < m := by omega
          obtain ⟨f', hf'⟩ := nmS_let HN.out hlt (show letL (dr s p) = m by rw [HLL.out, hb]; simp; omega) hm
          have HF := Lib.hid hf'
          have hnl' : m ≤ s.size - p := by simpa using hnl
          clear hb hn hf' hnl
          go_wp2
          go_roundg (s.size - (p + m))
          case measure => have := HGK.out; simp; omega
          case rel => exact ⟨p + m, f', rfl, by omega, by omega, by go_num, HF, HB1⟩
        | false =>
          have hl0 : letL (dr s p) = 0 := by rw [HLL.out, hb]; rfl
          by_cases hn : n = 0
          · have hn1 : (n == 0) = true := by rw [hn]; rfl
            have HE := Lib.hid (nmS_stop HN.out hl0 (.inr (fun h => by
              cases hd : isDig s[p] with
              | false => rfl
              | true =>
                have h3 := HAS.out (by have := (dig_int s[p]).1 hd; omega)
                injection h3 with h4 h5; omega)))
            clear hb hl0
            go_wp2
            go_ret
            exact ⟨ret_int (by have := HE.out; omega), HB1.out⟩
          · have hn1 : (n == 0) = false := by rw [beq_eq_false_iff_ne]; exact hn
            by_cases hpa : p = a
            · have HE := Lib.hid (nmS_stop HN.out hl0 (.inl hpa))
              have hpa' : ((p : Int) == (a : Int)) = true := by rw [hpa]; simp
              clear hb hl0 hpa
              go_wp2
              go_ret
              exact ⟨ret_int (by have := HE.out; omega), HB1.out⟩
            · have hpa' : ((p : Int) == (a : Int)) = false := by rw [beq_eq_false_iff_ne]; omega
              by_cases h48 : c < 48
              · have HE := Lib.hid (nmS_stop HN.out hl0 (.inr (fun h => by
                  cases hd : isDig s[p] with
                  | false => rfl
                  | true =>
                    have h1 := (dig_int s[p]).1 hd
                    have h3 := HAS.out (by omega)
                    injection h3 with h4 h5; omega)))
                clear hb hl0 hpa
                go_wp2
                go_ret
                exact ⟨ret_int (by have := HE.out; omega), HB1.out⟩
              · by_cases h57 : 57 < c
                · have HE := Lib.hid (nmS_stop HN.out hl0 (.inr (fun h => by
                    cases hd : isDig s[p] with
                    | false => rfl
                    | true =>
                      have h1 := (dig_int s[p]).1 hd
                      have h3 := HAS.out (by omega)
                      injection h3 with h4 h5; omega)))
                  clear hb hl0 hpa
                  go_wp2
                  go_ret
                  exact ⟨ret_int (by have := HE.out; omega), HB1.out⟩
                · have h3 := HAS.out (HLO.out (by omega) hn)
                  injection h3 with h4 h5
                  obtain ⟨f', hf'⟩ := nmS_dig HN.out (by omega) hlt hl0 ((dig_int s[p]).2 (by omega))
                  have HF := Lib.hid hf'
                  have hn2 : (0 : Int) < n := by omega
                  have H5 := Lib.hid h5
                  clear hb hl0 hpa hf' h4 h5 hn
                  go_wp2
                  go_roundg (s.size - (p + 1))
                  case measure => have := HGK.out; simp; omega
                  case rel => exact ⟨p + 1, f', rfl, by omega, by omega, by rw [H5.out]; rfl, HF, HB1⟩
    · have HE := Lib.hid (nmS_stop HN.out (by rw [show dr s p = [] from drop_nil s p (by omega)]; rfl) (.inr (fun h => absurd h hlt)))
      go_wp2
      go_ret
      exact ⟨ret_int (by have := HE.out; omega), HB.out⟩


end Go.Proofs.YtmopeandckmgcaaDoor
