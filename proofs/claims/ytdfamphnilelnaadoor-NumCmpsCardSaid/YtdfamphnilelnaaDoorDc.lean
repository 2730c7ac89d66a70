/- num: Cmp. -/
import Derived.Test.YtdfamphnilelnaaDoorDa
import Derived.Test.YtdfamphnilelnaaDoorDb
import Derived.Test.YtdfamphnilelnaaDoorNf
namespace Go.Proofs.YtdfamphnilelnaaDoor
open Go.RowKit

def cmpVV (a b : NV) : Int := if sideV a < sideV b then -1 else if sideV b < sideV a then 1 else sideV a * sizeV a b
/-- What num.Cmp answers. -/
def cmpL (l : L8) (n : Int) : Int := match splitL l with | none => 0 | some x => cmpVV (readV x) (wnV n)
theorem sideV_bd (v : NV) : sideV v = -1 ∨ sideV v = 0 ∨ sideV v = 1 := by
  unfold sideV; split
  · simp
  · split <;> simp
theorem lexF_bd (a b : L8) : ∀ n i, -1 ≤ lexF a b i n ∧ lexF a b i n ≤ 1
  | 0, i => by simp [lexF]
  | n + 1, i => by
    rw [lexF]; split
    · omega
    · split
      · omega
      · exact lexF_bd a b n (i + 1)
theorem sizeV_bd (a b : NV) : -1 ≤ sizeV a b ∧ sizeV a b ≤ 1 := by
  unfold sizeV; split
  · omega
  · split
    · omega
    · exact lexF_bd _ _ _ _
def CS (w wx : World) (g : Nat) (a b : Array Value) : Prop := Blk wx g 40 a ∧ Blk wx (g + 1) 40 b ∧ Bel w.heap.size w wx
theorem CS.bel {w wx w2 : World} {g : Nat} {a b : Array Value} (h : CS w wx g a b) (hb : Bel wx.heap.size wx w2) : CS w w2 g a b :=
  ⟨h.1.bel hb h.1.lt, h.2.1.bel hb h.2.1.lt, h.2.2.next hb⟩
theorem CS.drew {w wx : World} {g : Nat} {a b : Array Value} (h : CS w wx g a b) : CS w wx.drew g a b := ⟨h.1, h.2.1, h.2.2.drew⟩
theorem CS.start {w w1 : World} (a b : Array Value) (hb : Bel w.heap.size w w1) : CS w ((w1.alloc (.cells a 40)).alloc (.cells b 40)) w1.heap.size a b :=
  ⟨(Blk.new _ _ _).alloc _, Blk.new1 _ _ _ _, (hb.alloc hb.size _).alloc (by have := hb.size; simp; omega) _⟩

def CH (s : ByteArray) (n : Int) (w : World) (r : Int) : Prop := Calls Tryd.prog 10 #[.string s, .int .i64 n] w fun e w' => e = .returned (.int .i64 r) ∧ Bel w.heap.size w w'

set_option maxRecDepth 100000 in
set_option maxHeartbeats 1000000 in
theorem cmp_no (s : ByteArray) (n : Int) (w : World) (hs : s.size ≤ 50000) (hx : splitL s.data.toList = none) : CH s n w 0 := by
  unfold CH
  have hsp := fun w => split_any s w (by omega)
  rw [hx] at hsp
  clear hx
  simp only [splitV] at hsp
  go_enter Tryd.func10, Tryd.ntmps10
  go_wp2_with (go_at_call 15; refine (hsp _).mono ?_; rintro e w1 ⟨rfl, hb⟩; have HW := Lib.hid hb; have hsz := hb.size; clear hb)
  go_ret
  exact ⟨rfl, by (repeat' (first | (with_reducible exact HW.out) | (with_reducible exact HB5.out) | (with_reducible refine Bel.setCell ?_ (by first | exact Nat.le_refl _ | (simp; omega) | omega | (simp <;> omega)) _) | (with_reducible refine Bel.alloc ?_ (by first | exact Nat.le_refl _ | (simp; omega) | omega | (simp <;> omega)) _) | (with_reducible refine Bel.drew ?_) | (with_reducible refine Bel.drewN ?_ _)))⟩

set_option maxRecDepth 100000 in
set_option maxHeartbeats 2000000 in
theorem cmp_yes (s : ByteArray) (n : Int) (w : World) (h0 : -9223372036854775808 ≤ n) (h1 : n ≤ 9223372036854775807) (ht : Tab w) (hs : s.size ≤ 50000) (x : NP) (hx : splitL s.data.toList = some x) : CH s n w (cmpVV (readV x) (wnV n)) := by
  unfold CH
  have hsp := fun w => split_any s w (by omega)
  obtain ⟨xl1, xl2, xl3⟩ := split_len hx
  rw [len_toList] at xl1 xl2 xl3
  rw [hx] at hsp
  clear hx
  simp only [splitV] at hsp
  have hrd := fun w => read_any x.m (bs x.w) (bs x.f) (bs x.e) w (by rw [bs_size]; omega) (by rw [bs_size]; omega) (by rw [bs_size]; omega)
  simp only [bs_list] at hrd
  rw [show (⟨x.m, x.w, x.f, x.e⟩ : NP) = x from rfl] at hrd
  have hwn := fun w h => nwhole_any n w h0 h1 h
  have hxs := sideV_bd (readV x)
  have hzs := sizeV_bd (readV x) (wnV n)
  have HC := Lib.hid (show cmpVV (readV x) (wnV n) = if sideV (readV x) < sideV (wnV n) then -1 else if sideV (wnV n) < sideV (readV x) then 1 else sideV (readV x) * sizeV (readV x) (wnV n) from rfl)
  have hsa : ∀ w, Calls Tryd.prog 18 #[valV (readV x)] w fun e w' => e = .returned (.int .i64 (sideV (readV x))) ∧ Bel w.heap.size w w' := fun w => by
    have h := side_any (readV x).m (bs (readV x).d) (readV x).p w
    rw [bs_list] at h; exact h
  have hsb : ∀ w, Calls Tryd.prog 18 #[valV (wnV n)] w fun e w' => e = .returned (.int .i64 (sideV (wnV n))) ∧ Bel w.heap.size w w' := fun w => by
    have h := side_any (wnV n).m (bs (wnV n).d) (wnV n).p w
    rw [bs_list] at h; exact h
  have hsz : ∀ w, Calls Tryd.prog 19 #[valV (readV x), valV (wnV n)] w fun e w' => e = .returned (.int .i64 (sizeV (readV x) (wnV n))) ∧ Bel w.heap.size w w' := fun w => by
    have h := size_any (readV x).m (wnV n).m (bs (readV x).d) (bs (wnV n).d) (readV x).p (wnV n).p w
    rw [bs_list, bs_list] at h; exact h
  generalize cmpVV (readV x) (wnV n) = r at *
  generalize sizeV (readV x) (wnV n) = z at *
  generalize sideV (readV x) = sx at *
  have hys := sideV_bd (wnV n)
  generalize sideV (wnV n) = sy at *
  generalize readV x = V at *
  generalize wnV n = U at *
  obtain ⟨vm, vd, vp⟩ := V
  obtain ⟨um, ud, up⟩ := U
  simp only [valV] at hrd hwn hsa hsb hsz
  generalize bs vd = bv at *
  generalize bs ud = bu at *
  have HT := Lib.hid ht; clear ht
  go_enter Tryd.func10, Tryd.ntmps10
  go_upto_region 4 with (go_at_call 15; refine (hsp _).mono ?_; rintro e w1 ⟨rfl, hb⟩; have HW := Lib.hid hb; clear hb)
  go_cut [7, 8] (fun u v wx => ∃ g : Nat, u = .pointer (some ⟨g, 0, none⟩) ∧ v = .pointer (some ⟨g + 1, 0, none⟩) ∧ Hid (CS w wx g #[.bool vm, .string bv, .int .i64 vp] #[.bool um, .string bu, .int .i64 up]))
  case first =>
    go_wp2_with (first
      | (go_at_call 16; refine (hrd _).mono ?_; rintro e w2 ⟨rfl, hb⟩; have HW := Lib.hid ((HW.out.alloc HW.out.size _).next hb); clear hb)
      | (go_at_call 17; refine (hwn _ (HT.out.bel HW.out (Nat.le_refl _))).mono ?_; rintro e w3 ⟨rfl, hb⟩; have HW := Lib.hid (HW.out.next hb); clear hb))
    go_meet
    case rel => exact ⟨_, rfl, rfl, Lib.hid (CS.start _ _ HW.out)⟩
  case rest =>
    obtain ⟨g, rfl, rfl, HS⟩ := hcut
    obtain ⟨hx1, hx2, hbe⟩ := HS.out
    obtain ⟨asz, ⟨a0, a1, a2⟩, i0, i1, i2⟩ := hx1.three
    obtain ⟨bsz, ⟨b0, b1, b2⟩, j0, j1, j2⟩ := hx2.three
    clear hx1 hx2 hbe
    go_upto_region 5 with fail
    go_cut [9, 10] (fun u v wx => u = .int .i64 sx ∧ v = .int .i64 sy ∧ Hid (CS w wx g #[.bool vm, .string bv, .int .i64 vp] #[.bool um, .string bu, .int .i64 up]))
    case first =>
      go_region_with (first | (go_at_call_of 18 (Value.agg #[Value.bool vm, Value.string bv, Value.int IntKind.i64 vp]); refine (hsa _).mono ?_; rintro e w2 ⟨rfl, hb⟩; have HS := Lib.hid (show CS w w2 g #[.bool vm, .string bv, .int .i64 vp] #[.bool um, .string bu, .int .i64 up] by first | exact HS.out.bel hb | exact HS.out.drew.bel hb); clear hb asz a0 a1 a2 i0 i1 i2 bsz b0 b1 b2 j0 j1 j2; obtain ⟨hx1, hx2, hbe⟩ := HS.out; obtain ⟨asz, ⟨a0, a1, a2⟩, i0, i1, i2⟩ := hx1.three; obtain ⟨bsz, ⟨b0, b1, b2⟩, j0, j1, j2⟩ := hx2.three; clear hx1 hx2 hbe) | (go_at_call_of 18 (Value.agg #[Value.bool um, Value.string bu, Value.int IntKind.i64 up]); refine (hsb _).mono ?_; rintro e w2 ⟨rfl, hb⟩; have HS := Lib.hid (show CS w w2 g #[.bool vm, .string bv, .int .i64 vp] #[.bool um, .string bu, .int .i64 up] by first | exact HS.out.bel hb | exact HS.out.drew.bel hb); clear hb asz a0 a1 a2 i0 i1 i2 bsz b0 b1 b2 j0 j1 j2; obtain ⟨hx1, hx2, hbe⟩ := HS.out; obtain ⟨asz, ⟨a0, a1, a2⟩, i0, i1, i2⟩ := hx1.three; obtain ⟨bsz, ⟨b0, b1, b2⟩, j0, j1, j2⟩ := hx2.three; clear hx1 hx2 hbe))
      all_goals
        go_wp2
        go_meet
        case rel => exact ⟨rfl, rfl, HS⟩
    case rest =>
      obtain ⟨rfl, rfl, HS5⟩ := hcut
      clear asz a0 a1 a2 i0 i1 i2 bsz b0 b1 b2 j0 j1 j2 HS
      obtain ⟨hx1, hx2, hbe⟩ := HS5.out
      have HW5 := Lib.hid hbe
      obtain ⟨asz, ⟨a0, a1, a2⟩, i0, i1, i2⟩ := hx1.three
      obtain ⟨bsz, ⟨b0, b1, b2⟩, j0, j1, j2⟩ := hx2.three
      clear hx1 hx2 hbe
      by_cases c1 : sx < sy
      · have HQ := Lib.hid (HC.out.trans (if_pos c1))
        go_wp2
        go_ret
        exact ⟨ret_int HQ.out.symm, HW5.out⟩
      · by_cases c2 : sy < sx
        · have HQ := Lib.hid (HC.out.trans ((if_neg c1).trans (if_pos c2)))
          go_wp2
          go_ret
          exact ⟨ret_int HQ.out.symm, HW5.out⟩
        · have HQ := Lib.hid (HC.out.trans ((if_neg c1).trans (if_neg c2)))
          have hpr : -1 ≤ sx * z ∧ sx * z ≤ 1 := by rcases hxs with h | h | h <;> rw [h] <;> omega
          obtain ⟨hp0, hp1⟩ := hpr
          generalize hpz : sx * z = pz at *
          go_wp2_with (go_at_call 19; refine (hsz _).mono ?_; rintro e w9 ⟨rfl, hb⟩; have HW9 := Lib.hid (HW5.out.next hb); clear hb)
          go_ret
          exact ⟨ret_int HQ.out.symm, HW9.out⟩

theorem cmp_any (s : ByteArray) (n : Int) (w : World) (h0 : -9223372036854775808 ≤ n) (h1 : n ≤ 9223372036854775807) (ht : Tab w) (hs : s.size ≤ 50000) : CH s n w (cmpL s.data.toList n) := by
  unfold cmpL
  cases hx : splitL s.data.toList with
  | none => exact cmp_no s n w hs hx
  | some x => exact cmp_yes s n w h0 h1 ht hs x hx

end Go.Proofs.YtdfamphnilelnaaDoor
