/- num: whole, side. -/
import Derived.Test.YtdfamphnilelnaaDoorNd
import Derived.Test.YtdfamphnilelnaaDoorSh
import Derived.Lib.ItoaLen
namespace Go.Proofs.YtdfamphnilelnaaDoor
open Go.RowKit

/-- The library's table stands as it was laid. -/
def Tab (w : World) : Prop := Lib.TabIs Tryd.prog w "internal/strconv.uint64pow10" .u64 Lib.pow10Tab
theorem Tab.bel {w w' : World} {B : Nat} (h : Tab w) (hb : Bel B w w') (hB : w.heap.size ≤ B) : Tab w' := by
  unfold Tab Lib.TabIs World.var? at h ⊢
  cases hg : Tryd.prog.globalNamed "internal/strconv.uint64pow10" with
  | none => rw [hg] at h; cases h
  | some g =>
    rw [hg] at h
    simp only [Option.bind_some] at h ⊢
    have hlt : g < w.heap.size := by
      rcases Nat.lt_or_ge g w.heap.size with h' | h'
      · exact h'
      · rw [Array.getElem?_eq_none h'] at h; cases h
    rw [hb.block g (by omega)]
    exact h
theorem Tab.alloc {w : World} (h : Tab w) (o : Obj) : Tab (w.alloc o) := h.bel ((Bel.refl _ _).alloc (Nat.le_refl _) o) (Nat.le_refl _)
theorem Tab.drew {w : World} (h : Tab w) : Tab w.drew := h
theorem grow_bel (w : World) (k : Nat) (os : Array Obj) : Bel w.heap.size w (Sort.grow (w.drewN k) os) :=
  ⟨rfl, rfl, by show w.heap.size ≤ (w.heap ++ os).size; simp, fun i hi => by show (w.heap ++ os)[i]? = _; rw [Array.getElem?_append_left hi]⟩
theorem fmt_any (n : Int) (h0 : -9223372036854775808 ≤ n) (h1 : n ≤ 9223372036854775807) (w : World) (ht : Tab w) :
    Calls Tryd.prog 26 #[.int .i64 n, .int .i64 10] w fun e w' => e = .returned (.string (bs (Lib.itoa n))) ∧ Bel w.heap.size w w' :=
  (Tryd.strconv_FormatInt_10 n h0 h1 w ht).mono fun e w' h => by
    obtain ⟨rfl, k, os, rfl⟩ := h
    exact ⟨rfl, grow_bel w k os⟩

/-- A whole number's digits; its value. -/
def natD (n : Int) : L8 := Lib.decDigits n.natAbs
def wnV (n : Int) : NV := trimV ⟨decide (n < 0), natD n, (natD n).length⟩
theorem itoa_neg' {n : Int} (h : n < 0) : Lib.itoa n = 45 :: natD n := by unfold Lib.itoa natD; rw [if_pos h]
theorem itoa_pos' {n : Int} (h : ¬ n < 0) : Lib.itoa n = natD n := by
  unfold Lib.itoa natD; rw [if_neg h, show n.toNat = n.natAbs by omega]
theorem natD_len (n : Int) (h0 : -9223372036854775808 ≤ n) (h1 : n ≤ 9223372036854775807) : (natD n).length ≤ 21 := by
  have h := Lib.itoa_length_le n h0 h1
  by_cases hn : n < 0
  · rw [itoa_neg' hn] at h; simp at h; omega
  · rw [itoa_pos' hn] at h; exact h

set_option maxRecDepth 100000 in
set_option maxHeartbeats 1000000 in
theorem nwhole_any (n : Int) (w : World) (h0 : -9223372036854775808 ≤ n) (h1 : n ≤ 9223372036854775807) (ht : Tab w) :
    Calls Tryd.prog 17 #[.int .i64 n] w fun e w' => e = .returned (valV (wnV n)) ∧ Bel w.heap.size w w' := by
  have hf := fun w h => fmt_any n h0 h1 w h
  have hnl := natD_len n h0 h1
  have HT := Lib.hid ht; clear ht
  have hbl : (bs (Lib.itoa n)).data.toList = Lib.itoa n := bs_list _
  generalize bs (Lib.itoa n) = t at *
  have HTL := Lib.hid hbl; clear hbl
  have HD := Lib.hid (show wnV n = trimV ⟨decide (n < 0), natD n, ((natD n).length : Int)⟩ from rfl)
  go_enter Tryd.func17, Tryd.ntmps17
  go_upto_if 7 with (go_at_call 26; refine (hf _ (HT.out.alloc _)).mono ?_; rintro e wF ⟨rfl, hb⟩; have HK := Lib.hid ((Blk.new w 40 #[.bool false, .string ⟨#[]⟩, .int .i64 0]).bel hb (by simp)); have HW := Lib.hid (((Bel.refl w.heap.size w).alloc (Nat.le_refl _) _).trans (hb.mono (by simp))); clear hb)
  go_cut [3] (fun v wx => ∃ d : ByteArray, v = .string d ∧ Hid (d.data.toList = natD n) ∧ wx = wF)
  case first =>
    by_cases hn : n < 0
    · have HX := Lib.hid (show (t.extract 1 t.size).data.toList = natD n by rw [ext_drop, HTL.out, itoa_neg' hn]; rfl)
      have hts : (1 : Int) ≤ t.size := by have := len_toList t; rw [HTL.out, itoa_neg' hn] at this; simp at this; omega
      go_wp2
      go_meet
      case rel => exact ⟨_, rfl, HX, rfl⟩
    · have HX := Lib.hid (show t.data.toList = natD n by rw [HTL.out, itoa_pos' hn])
      go_wp2
      go_meet
      case rel => exact ⟨_, rfl, HX, rfl⟩
  case rest =>
    obtain ⟨d, rfl, HX, rfl⟩ := hcut
    have hds : d.size = (natD n).length := by rw [← HX.out, len_toList]
    have htr := fun w => trimmed_any (decide (n < 0)) d (d.size : Int) w (by omega) (by omega) (by omega)
    have HD := Lib.hid (show wnV n = trimV ⟨decide (n < 0), d.data.toList, (d.size : Int)⟩ by rw [HD.out, HX.out, hds])
    generalize trimV ⟨decide (n < 0), d.data.toList, (d.size : Int)⟩ = V at *
    obtain ⟨vm, vd, vp⟩ := V
    simp only [valV] at htr
    obtain ⟨ksz, ⟨k0, k1, k2⟩, l0, l1, l2⟩ := HK.out.three
    clear hds
    go_wp2_with (go_at_call 24; refine (htr _).mono ?_; rintro e w1 ⟨rfl, hb⟩; have HK1 := Lib.hid (HK.out.bel hb ksz); obtain ⟨fsz, ⟨f0, f1, f2⟩, g0, g1, g2⟩ := HK1.out.three; have HW := Lib.hid (HW.out.trans (hb.mono (by omega))); clear hb)
    refine bodyPost_ret (v := .agg #[.bool vm, .string (bs vd), .int .i64 vp]) (by simp [results, Tryd.results17, go_sem, f0, f1, f2]) rfl ?_
    exact ⟨by rw [HD.out]; rfl, by (repeat' (first | (with_reducible exact HW.out) | (with_reducible exact HB5.out) | (with_reducible refine Bel.setCell ?_ (by first | exact Nat.le_refl _ | (simp; omega) | omega | (simp <;> omega)) _) | (with_reducible refine Bel.alloc ?_ (by first | exact Nat.le_refl _ | (simp; omega) | omega | (simp <;> omega)) _) | (with_reducible refine Bel.drew ?_) | (with_reducible refine Bel.drewN ?_ _)))⟩

/-- The side of a value. -/
def sideV (v : NV) : Int := if v.d = [] then 0 else if v.m then -1 else 1
set_option maxRecDepth 100000 in
set_option maxHeartbeats 1000000 in
theorem side_any (m : Bool) (d : ByteArray) (p : Int) (w : World) :
    Calls Tryd.prog 18 #[.agg #[.bool m, .string d, .int .i64 p]] w fun e w' => e = .returned (.int .i64 (sideV ⟨m, d.data.toList, p⟩)) ∧ Bel w.heap.size w w' := by
  rcases Nat.eq_zero_or_pos d.size with h0 | h0
  · have h1 := te_t h0
    have HS := Lib.hid (show sideV ⟨m, d.data.toList, p⟩ = 0 by unfold sideV; rw [if_pos (List.eq_nil_of_length_eq_zero (by simpa using h0))])
    clear h0
    go_enter Tryd.func18, Tryd.ntmps18
    go_wp2
    go_ret
    exact ⟨ret_int HS.out.symm, Bel.of (by (repeat' (first | (with_reducible exact Below.refl _ _) | (with_reducible refine Below.trans ?_ (below_drewN _ _ _)) | (with_reducible refine Below.alloc ?_ ?_ _) | (with_reducible refine Below.setCell ?_ ?_ _) | (with_reducible refine Below.drew ?_) | go_size)))⟩
  · have h1 := te_f h0
    have HS := Lib.hid (show sideV ⟨m, d.data.toList, p⟩ = if m then -1 else 1 by unfold sideV; rw [if_neg (ne_nil h0)])
    cases m
    all_goals
      go_enter Tryd.func18, Tryd.ntmps18
      go_wp2
      go_ret
      exact ⟨ret_int HS.out.symm, Bel.of (by (repeat' (first | (with_reducible exact Below.refl _ _) | (with_reducible refine Below.trans ?_ (below_drewN _ _ _)) | (with_reducible refine Below.alloc ?_ ?_ _) | (with_reducible refine Below.setCell ?_ ?_ _) | (with_reducible refine Below.drew ?_) | go_size)))⟩

end Go.Proofs.YtdfamphnilelnaaDoor
