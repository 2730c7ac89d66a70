/- law10: text. -/
import Derived.Test.YtdfamphnilelnaaDoorDg
import Derived.Test.YtdfamphnilelnaaDoorDf
namespace Go.Proofs.YtdfamphnilelnaaDoor
open Go.RowKit

/-- Where the number lies. -/
def YS (w wr : World) (g : Nat) (m : Bool) (A : Option Addr) (ds : List Int) (dl c : Nat) : Prop :=
  Blk wr g 47 #[.bool m, .slice A dl c, .int .i64 (dl : Int), .int .i64 0] ∧ Rd wr A (ds.map (Value.int .i64)) ∧ Bel w.heap.size w wr
theorem YS.bel {w wr w2 : World} {g : Nat} {m : Bool} {A : Option Addr} {ds : List Int} {dl c : Nat} (h : YS w wr g m A ds dl c) (hb : Bel wr.heap.size wr w2) : YS w w2 g m A ds dl c :=
  ⟨h.1.bel hb h.1.lt, h.2.1.bel hb (Nat.le_refl _), h.2.2.next hb⟩
theorem YS.start {w w1 : World} {m : Bool} {A : Option Addr} {ds : List Int} {dl c : Nat} (hr : Rd w1 A (ds.map (Value.int .i64))) (hb : Bel w.heap.size w w1) : YS w (w1.alloc (.cells #[.bool m, .slice A dl c, .int .i64 (dl : Int), .int .i64 0] 47)) w1.heap.size m A ds dl c :=
  ⟨Blk.new _ _ _, hr.alloc _, hb.alloc hb.size _⟩

set_option maxRecDepth 100000 in
set_option maxHeartbeats 2000000 in
theorem text_any (n : Int) (w : World) (n0 : -9223372036854775808 ≤ n) (n1 : n ≤ 9223372036854775807) :
    Calls Tryd.prog 12 #[.int .i64 n] w fun e w' => e = .returned (.string (bs (Lib.itoa n))) ∧ Bel w.heap.size w w' := by
  have hll := natD_len n n0 n1
  obtain ⟨m, hm⟩ : ∃ m, decide (n < 0) = m := ⟨_, rfl⟩
  have HI := Lib.hid (show Lib.itoa n = if m then 45 :: natD n else natD n by
    rw [← hm]
    by_cases h : n < 0
    · rw [itoa_neg' h, decide_eq_true h]; rfl
    · rw [itoa_pos' h, decide_eq_false h]; rfl)
  obtain ⟨ds, hds⟩ : ∃ ds, dI (natD n) = ds := ⟨_, rfl⟩
  obtain ⟨dl, hdl⟩ : ∃ dl, ds.length = dl := ⟨_, rfl⟩
  have hof : ∀ w, Calls Tryd.prog 22 #[.int .i64 n] w fun e w' => ∃ A c, e = .returned (.agg #[.bool m, .slice A dl c, .int .i64 (dl : Int), .int .i64 0]) ∧ Rd w' A (ds.map (Value.int .i64)) ∧ Bel w.heap.size w w' := fun w => by
    have h := of_any n w n0 n1
    unfold OfP at h
    rw [hds, hm, hdl] at h
    simp only [numR, hdl] at h
    exact h
  have hlen : dl = (natD n).length := by rw [← hdl, ← hds, dI_len]
  have HDG := Lib.hid (show ∀ k (h : k < (natD n).length), ds[k]? = some (((natD n)[k].toNat : Int) - 48) ∧ isDig (natD n)[k] = true from fun k h => by
    have hd := dd_dig n.natAbs
    rw [List.all_eq_true] at hd
    exact ⟨by rw [← hds]; unfold dI; rw [List.getElem?_map, List.getElem?_eq_getElem h]; rfl, hd _ (List.getElem_mem h)⟩)
  clear hds hm hdl
  generalize natD n = L at *
  subst hlen
  go_enter Tryd.func12, Tryd.ntmps12
  go_upto_region 3 with (go_at_call 22; refine (hof _).mono ?_; rintro e w1 ⟨A, c, rfl, hr, hb⟩; have HY := Lib.hid (YS.start (m := m) (dl := L.length) (c := c) hr hb); clear hr hb)
  go_wp2
  go_loopw [3, 5] (fun v i wr => ∃ (t : ByteArray) (k : Nat), v = .string t ∧ i = .int .i64 k ∧ k ≤ L.length ∧ t.size ≤ 100 ∧ Hid (t.data.toList = L.take k) ∧ Hid (YS w wr w1.heap.size m A ds L.length c)) (fun _ i _ => L.length - (intOf i).toNat)
  case atStart => exact ⟨⟨#[]⟩, 0, rfl, rfl, by omega, by decide, Lib.hid rfl, HY⟩
  case round =>
    clear HY
    obtain ⟨t, k, rfl, rfl, hk, hts, HT, HYL⟩ := hrel
    obtain ⟨hx, hr, hb⟩ := HYL.out
    obtain ⟨xsz, ⟨x0, x1, x2, x3⟩, y0, y1, y2, y3⟩ := hx.four
    have HWL := Lib.hid hb
    clear hx hb
    by_cases hlt : k < L.length
    · obtain ⟨hd1, hd2⟩ := HDG.out k hlt
      have hdb := dig_bd hd2
      have HTK := Lib.hid (show L.take (k + 1) = L.take k ++ [L[k]] from List.take_succ_eq_append_getElem hlt)
      obtain ⟨b, off, rfl, hbl, hc⟩ := hr.pos (by rw [List.length_map]; exact (List.getElem?_eq_some_iff.1 hd1).1 |> fun h => by omega)
      have hc1 := hc k (.int .i64 ((L[k].toNat : Int) - 48)) (by rw [List.getElem?_map, hd1]; rfl)
      generalize L[k] = x at *
      clear hc hd1 hd2
      have hcat : ¬ 9223372036854775807 < t.size + 1 := by omega
      have HT2 := Lib.hid (show (t ++ ⟨#[x]⟩).data.toList = L.take (k + 1) by rw [HTK.out, ← HT.out]; simp)
      have HSZ := Lib.hid (show (t ++ ⟨#[x]⟩).size ≤ 100 by
        have h := len_toList (t ++ ⟨#[x]⟩)
        rw [HT2.out, List.length_take] at h
        omega)
      have hcv : (convert 52 9 (.slice (some ⟨wr.heap.size, 0, none⟩) 1 1)).run Tryd.prog (wr.alloc (.cells #[.int .u8 (48 + ((x.toNat : Int) - 48))] 5)) = .ok (.string ⟨#[x]⟩) (wr.alloc (.cells #[.int .u8 (48 + ((x.toNat : Int) - 48))] 5)) := by
        refine run_convert_bytes_back _ _ _ _ ⟨wr.heap.size, 0, none⟩ 1 [x] Tryd.underlying52 Tryd.underlying5 Tryd.underlying9 ?_
        intro j hj
        have hj0 : j = 0 := by simpa using hj
        subst hj0
        rw [show (48 : Int) + ((x.toNat : Int) - 48) = (x.toNat : Int) by omega]
        exact (Blk.new wr 5 #[.int .u8 (x.toNat : Int)]).cell 0
      go_wp2
      go_roundw
      case rel => exact ⟨_, k + 1, rfl, by go_num, by omega, HSZ.out, HT2, Lib.hid (HYL.out.bel ((Bel.refl _ _).alloc (Nat.le_refl _) _))⟩
      case measure => simp [intOf]; omega
    · have hkl : k = L.length := by omega
      have HTL := Lib.hid (show t.data.toList = L by rw [HT.out, hkl, List.take_length])
      clear hr HT
      have hcat : ¬ 9223372036854775807 < 1 + t.size := by omega
      cases m
      · have HQ := Lib.hid (show bs (Lib.itoa n) = t by rw [HI.out]; exact (bs_of HTL.out).symm)
        go_wp2
        go_ret
        exact ⟨ret_str HQ.out.symm, HWL.out⟩
      · have HQ := Lib.hid (show bs (Lib.itoa n) = ⟨#[45]⟩ ++ t by rw [HI.out]; exact (bs_of (by rw [cons_str, HTL.out]; rfl)).symm)
        go_wp2
        go_ret
        exact ⟨ret_str HQ.out.symm, HWL.out⟩

end Go.Proofs.YtdfamphnilelnaaDoor
