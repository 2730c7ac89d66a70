/- G49: Xa, Ia joined. -/
import Derived.Test.YtpcbcodmocmilaaGreatDoorWc
import Derived.Test.YtpcbcodmocmilaaGreatDoorG46
import Derived.Test.YtpcbcodmocmilaaGreatDoorG35
namespace Go.Proofs.YtpcbcodmocmilaaGreatDoor
open Go.RowKit
/- ref09's Scalar and Put in the words of the ranges; plain. -/
section
open Go.RowKit

theorem u8_of (x : Int) (a : UInt8) (h : 0 ≤ x) (h' : x < 256) : UInt8.ofNat x.toNat = a ↔ x = (a.toNat : Int) := by
  rw [← UInt8.toNat_inj]
  simp
  omega
theorem str_ext {xs : List Int} {s : ByteArray} {n : Nat} : strOfNums xs = s.extract 0 n ↔ (xs.map fun x => UInt8.ofNat x.toNat) = s.data.toList.take n := by
  rw [← strOfNums_data, ← ext_take]
  constructor
  · intro h; rw [h]
  · intro h; exact (bs_of h).trans (bs_of rfl).symm
theorem bI_bs (l : List UInt8) (i : Nat) : bI (bs l) i = ((l.getD i 0).toNat : Int) := by unfold bI; rw [bs_list]
theorem sz_bs (l : List UInt8) : (bs l).size = l.length := by rw [← len_toList, bs_list]
theorem put2 (a b : UInt8) (r : List UInt8) (h1 : 192 ≤ (a.toNat : Int)) (h2 : (a.toNat : Int) < 224) :
    strOfNums (putI (cd2 (a.toNat : Int) (b.toNat : Int))) = (bs (a :: b :: r)).extract 0 2 ↔ (194 ≤ (a.toNat : Int) ∧ 128 ≤ (b.toNat : Int) ∧ (b.toNat : Int) ≤ 191) := by
  have hb := b.toNat_lt
  rw [str_ext, bs_list]
  unfold putI cd2
  rw [if_neg (by omega)]
  by_cases h3 : ((a.toNat : Int) - 192) * 64 + (b.toNat : Int) % 64 < 128
  · rw [if_pos h3]
    constructor
    · intro h; have := congrArg List.length h; simp at this
    · intro h; omega
  · rw [if_neg h3, if_pos (by omega)]
    simp only [List.map_cons, List.map_nil, List.take_succ_cons, List.take_zero, List.cons.injEq, and_true]
    rw [u8_of _ _ (by omega) (by omega), u8_of _ _ (by omega) (by omega)]
    constructor
    · intro h; omega
    · intro h; omega
theorem put3 (a b c : UInt8) (r : List UInt8) (h1 : 224 ≤ (a.toNat : Int)) (h2 : (a.toNat : Int) < 240) :
    strOfNums (putI (cd3 (a.toNat : Int) (b.toNat : Int) (c.toNat : Int))) = (bs (a :: b :: c :: r)).extract 0 3 ↔
    ((if (a.toNat : Int) = 224 then 160 else 128) ≤ (b.toNat : Int) ∧ (b.toNat : Int) ≤ (if (a.toNat : Int) = 237 then 159 else 191) ∧ 128 ≤ (c.toNat : Int) ∧ (c.toNat : Int) ≤ 191) := by
  have hb := b.toNat_lt
  have hc := c.toNat_lt
  rw [str_ext, bs_list]
  unfold putI cd3
  obtain ⟨v, hv⟩ : ∃ v, (((a.toNat : Int) - 224) * 64 + (b.toNat : Int) % 64) * 64 + (c.toNat : Int) % 64 = v := ⟨_, rfl⟩
  rw [hv]
  by_cases h3 : v < 0 ∨ 1114111 < v ∨ (55296 ≤ v ∧ v ≤ 57343)
  · rw [if_pos h3]
    constructor
    · intro h; have := congrArg List.length h; simp at this
    · intro h; exfalso; have k1 := h.1; have k2 := h.2.1; split at k1 <;> split at k2 <;> omega
  · rw [if_neg h3]
    by_cases h4 : v < 128
    · rw [if_pos h4]
      constructor
      · intro h; have := congrArg List.length h; simp at this
      · intro h; exfalso; have k1 := h.1; have k2 := h.2.1; split at k1 <;> split at k2 <;> omega
    · rw [if_neg h4]
      by_cases h5 : v < 2048
      · rw [if_pos h5]
        constructor
        · intro h; have := congrArg List.length h; simp at this
        · intro h; exfalso; have k1 := h.1; have k2 := h.2.1; split at k1 <;> split at k2 <;> omega
      · rw [if_neg h5, if_pos (by omega)]
        simp only [List.map_cons, List.map_nil, List.take_succ_cons, List.take_zero, List.cons.injEq, and_true]
        rw [u8_of _ _ (by omega) (by omega), u8_of _ _ (by omega) (by omega), u8_of _ _ (by omega) (by omega)]
        constructor
        · intro h
          refine ⟨?_, ?_, by omega, by omega⟩
          · split <;> omega
          · split <;> omega
        · intro h; have k1 := h.1; have k2 := h.2.1
          split at k1 <;> split at k2 <;> omega
theorem put4 (a b c d : UInt8) (r : List UInt8) (h1 : 240 ≤ (a.toNat : Int)) (h2 : (a.toNat : Int) < 248) :
    strOfNums (putI (cd4 (a.toNat : Int) (b.toNat : Int) (c.toNat : Int) (d.toNat : Int))) = (bs (a :: b :: c :: d :: r)).extract 0 4 ↔
    ((a.toNat : Int) ≤ 244 ∧ (if (a.toNat : Int) = 240 then 144 else 128) ≤ (b.toNat : Int) ∧ (b.toNat : Int) ≤ (if (a.toNat : Int) = 244 then 143 else 191) ∧ 128 ≤ (c.toNat : Int) ∧ (c.toNat : Int) ≤ 191 ∧ 128 ≤ (d.toNat : Int) ∧ (d.toNat : Int) ≤ 191) := by
  have hb := b.toNat_lt
  have hc := c.toNat_lt
  have hd := d.toNat_lt
  rw [str_ext, bs_list]
  unfold putI cd4
  obtain ⟨v, hv⟩ : ∃ v, ((((a.toNat : Int) - 240) * 64 + (b.toNat : Int) % 64) * 64 + (c.toNat : Int) % 64) * 64 + (d.toNat : Int) % 64 = v := ⟨_, rfl⟩
  rw [hv]
  by_cases h3 : v < 0 ∨ 1114111 < v ∨ (55296 ≤ v ∧ v ≤ 57343)
  · rw [if_pos h3]
    constructor
    · intro h; have := congrArg List.length h; simp at this
    · intro h; exfalso; have k1 := h.2.1; have k2 := h.2.2.1; split at k1 <;> split at k2 <;> omega
  · rw [if_neg h3]
    by_cases h4 : v < 65536
    · constructor
      · intro h
        exfalso
        have := congrArg List.length h
        simp only [List.length_map, List.length_take, List.length_cons] at this
        revert this
        (repeat' split) <;> simp <;> omega
      · intro h; exfalso; have k1 := h.2.1; have k2 := h.2.2.1; split at k1 <;> split at k2 <;> omega
    · rw [if_neg (by omega), if_neg (by omega), if_neg h4]
      simp only [List.map_cons, List.map_nil, List.take_succ_cons, List.take_zero, List.cons.injEq, and_true]
      rw [u8_of _ _ (by omega) (by omega), u8_of _ _ (by omega) (by omega), u8_of _ _ (by omega) (by omega), u8_of _ _ (by omega) (by omega)]
      constructor
      · intro h
        refine ⟨by omega, ?_, ?_, by omega, by omega, by omega, by omega⟩
        · split <;> omega
        · split <;> omega
      · intro h; have k1 := h.2.1; have k2 := h.2.2.1
        split at k1 <;> split at k2 <;> omega
theorem scalM_V (s : ByteArray) : scalM s = scalV s.data.toList := by
  obtain ⟨l, hl⟩ : ∃ l, s.data.toList = l := ⟨_, rfl⟩
  obtain rfl : s = bs l := bs_of hl
  rw [bs_list]
  unfold scalM code2 code3 code4
  simp only [bI_bs, sz_bs]
  match l with
  | [] => rfl
  | a :: l =>
    have ha := a.toNat_lt
    rw [if_neg (by simp)]
    unfold scalV
    simp only [List.getD_cons_zero]
    by_cases h1 : (a.toNat : Int) < 128
    · rw [if_pos h1, if_pos h1]
    · rw [if_neg h1, if_neg h1]
      by_cases h2 : (a.toNat : Int) < 192
      · rw [if_pos h2, if_neg (by omega), if_neg (by omega), if_neg (by omega)]
      · rw [if_neg h2]
        by_cases h3 : (a.toNat : Int) < 224
        · rw [if_pos h3]
          match l with
          | [] =>
            rw [if_pos (by simp)]
            (repeat' split) <;> first | rfl | (exfalso; simp_all; done) | omega
          | b :: r =>
            rw [if_neg (by simp)]
            simp only [List.getD_cons_succ, List.getD_cons_zero]
            by_cases hC : 194 ≤ (a.toNat : Int) ∧ 128 ≤ (b.toNat : Int) ∧ (b.toNat : Int) ≤ 191
            · rw [if_pos ((put2 a b r (by omega) h3).2 hC), if_pos (show 194 ≤ (a.toNat : Int) ∧ (a.toNat : Int) ≤ 223 by omega), if_pos (show 128 ≤ (b.toNat : Int) ∧ (b.toNat : Int) ≤ 191 by omega)]
              unfold cd2
              rw [show (b.toNat : Int) % 64 = (b.toNat : Int) - 128 by omega]
            · rw [if_neg (fun h => hC ((put2 a b r (by omega) h3).1 h))]
              by_cases h4 : 194 ≤ (a.toNat : Int) ∧ (a.toNat : Int) ≤ 223
              · rw [if_pos h4, if_neg (by omega)]
              · rw [if_neg h4, if_neg (by omega), if_neg (by omega)]
        · rw [if_neg h3]
          rw [if_neg (show ¬ (194 ≤ (a.toNat : Int) ∧ (a.toNat : Int) ≤ 223) by omega)]
          by_cases h4 : (a.toNat : Int) < 240
          · rw [if_pos h4, if_pos (show 224 ≤ (a.toNat : Int) ∧ (a.toNat : Int) ≤ 239 by omega)]
            match l with
            | [] => rw [if_pos (by simp)]
            | [_] => rw [if_pos (by simp)]
            | b :: c :: r =>
              rw [if_neg (by simp)]
              simp only [List.getD_cons_succ, List.getD_cons_zero]
              by_cases hC : (if (a.toNat : Int) = 224 then 160 else 128) ≤ (b.toNat : Int) ∧ (b.toNat : Int) ≤ (if (a.toNat : Int) = 237 then 159 else 191) ∧ 128 ≤ (c.toNat : Int) ∧ (c.toNat : Int) ≤ 191
              · rw [if_pos ((put3 a b c r (by omega) h4).2 hC), if_pos hC]
                unfold cd3
                have k1 := hC.1
                have k2 := hC.2.1
                have e1 : (b.toNat : Int) % 64 = (b.toNat : Int) - 128 := by split at k1 <;> split at k2 <;> omega
                have e2 : (c.toNat : Int) % 64 = (c.toNat : Int) - 128 := by omega
                rw [e1, e2]
              · rw [if_neg (fun h => hC ((put3 a b c r (by omega) h4).1 h)), if_neg hC]
          · rw [if_neg h4, if_neg (show ¬ (224 ≤ (a.toNat : Int) ∧ (a.toNat : Int) ≤ 239) by omega)]
            by_cases h5 : (a.toNat : Int) < 248
            · rw [if_pos h5]
              match l with
              | [] => rw [if_pos (by simp)]; (repeat' split) <;> first | rfl | (exfalso; simp_all; done)
              | [_] => rw [if_pos (by simp)]; (repeat' split) <;> first | rfl | (exfalso; simp_all; done)
              | [_, _] => rw [if_pos (by simp)]; (repeat' split) <;> first | rfl | (exfalso; simp_all; done)
              | b :: c :: d :: r =>
                rw [if_neg (by simp)]
                simp only [List.getD_cons_succ, List.getD_cons_zero]
                by_cases hC : (a.toNat : Int) ≤ 244 ∧ (if (a.toNat : Int) = 240 then 144 else 128) ≤ (b.toNat : Int) ∧ (b.toNat : Int) ≤ (if (a.toNat : Int) = 244 then 143 else 191) ∧ 128 ≤ (c.toNat : Int) ∧ (c.toNat : Int) ≤ 191 ∧ 128 ≤ (d.toNat : Int) ∧ (d.toNat : Int) ≤ 191
                · rw [if_pos ((put4 a b c d r (by omega) h5).2 hC), if_pos (show 240 ≤ (a.toNat : Int) ∧ (a.toNat : Int) ≤ 244 by omega), if_pos hC.2]
                  unfold cd4
                  have k1 := hC.2.1
                  have k2 := hC.2.2.1
                  have e1 : (b.toNat : Int) % 64 = (b.toNat : Int) - 128 := by split at k1 <;> split at k2 <;> omega
                  have e2 : (c.toNat : Int) % 64 = (c.toNat : Int) - 128 := by omega
                  have e3 : (d.toNat : Int) % 64 = (d.toNat : Int) - 128 := by omega
                  rw [e1, e2, e3]
                · rw [if_neg (fun h => hC ((put4 a b c d r (by omega) h5).1 h))]
                  by_cases h6 : 240 ≤ (a.toNat : Int) ∧ (a.toNat : Int) ≤ 244
                  · rw [if_pos h6, if_neg (fun h => hC ⟨h6.2, h⟩)]
                  · rw [if_neg h6]
            · rw [if_neg h5, if_neg (by omega)]
/-- With which scalar bytes begin (the reference's own). -/
theorem rscal_at (s : ByteArray) (c n : Int) (w : World) (hs : s.size ≤ maxLen) (h : Hid (scalV s.data.toList = (c, n))) :
    Calls Tryz.prog 37 #[.string s] w fun e w' => e = .returned (.tuple #[.int .i64 c, .int .i64 n]) ∧ Below w.heap.size w w' := by
  have := scal_any s w hs
  unfold SCAL at this
  rw [scalM_V, h.out] at this; exact this
end
/- The query of one name: what is written of it, and that it is read again; right bytes, scalar by scalar; plain. -/
section

theorem run_dead (l : List UInt8) : runU 8 l = 8 := by
  induction l with
  | nil => rfl
  | cons c r ih =>
    have : ustep 8 c.toNat = 8 := by unfold ustep; simp
    rw [runU_cons, this]; exact ih
theorem usc_z (l : List UInt8) : ∀ (i : Nat) (st c : Int), (uscF l i st c).2 = 0 → (st ≠ 0 ∨ l ≠ []) → runU st l ≠ 0 := by
  induction l with
  | nil => intro i st c _ h; exact h.elim id fun h => absurd rfl h
  | cons b r ih =>
    intro i st c h _
    rw [runU_cons]
    rw [uscF] at h
    split at h
    · rename_i h8; rw [h8, run_dead]; decide
    · split at h
      · simp only at h; omega
      · rename_i h0; exact ih _ _ _ h (.inl h0)
theorem right_z {l : List UInt8} (h : (scalV l).2 = 0) (hl : l ≠ []) : rightL l = false := by
  have := usc_z l 0 0 0 (by rw [usc_scal]; exact h) (.inr hl)
  unfold rightL; simpa using this
theorem right_step {l : List UInt8} (h : 0 < (scalV l).2) : rightL l = rightL (l.drop (scalV l).2.toNat) := by
  have := (right_scal l h).1
  unfold rightL
  conv => lhs; rw [← List.take_append_drop (scalV l).2.toNat l, runU_app, this]
/-- The query of one name alone. -/
def nmS (l : List UInt8) : SelT := ⟨0, l, 0, 0, 0, 0, false, false, none⟩
def nmP (l : List UInt8) : PathT := ⟨true, [⟨false, [nmS l]⟩]⟩
theorem nmP_wf {l : List UInt8} (h : rightL l = true) : WfP (SS l.length) (WfN (SS l.length) 200) (nmP l) := by
  intro s hs
  obtain rfl := List.mem_singleton.1 hs
  refine ⟨by simp, fun y hy => ?_⟩
  obtain rfl := List.mem_singleton.1 hy
  exact .nm l ⟨Nat.le_refl _, by unfold rightL at h; simpa using h⟩
theorem nmP_show (l : List UInt8) : showT (nmP l) = [36, 91] ++ txtL 39 l ++ [93] := by
  simp [showT, pathW, nmP, nmS, segW, selW, joinW]
theorem nmP_fit (l : List UInt8) : FitP 0 (nmP l) := by
  intro s hs y hy
  obtain rfl := List.mem_singleton.1 hs
  obtain rfl := List.mem_singleton.1 hy
  exact FitS.none rfl
theorem txt_len (l : List UInt8) : (txtL 39 l).length ≤ 6 * l.length + 2 := by
  have := escs_len 39 l
  unfold txtL; simp only [List.length_cons, List.length_append, List.length_nil]; omega
theorem back_of {N : Nat} (m' : Bool) {p : PathT} (h1 : WfP (SS N) (WfN (SS N) 200) p) (hf : FitP 0 p) (h3 : p.abs = true) (hl : (showT p).length ≤ 4096) : parseT m' (showT p) = .ok p := by
  obtain ⟨t, ht, hg⟩ := show_lexL ss_right h1 hl
  have hb := read_back m' ((showT p).length : Nat) h1 hf h3
  unfold parseT stOf
  rw [ht]
  have := alike_parse2 m' ((showT p).length : Nat) ((showT p).length : Nat) (t := ⟨showTk p, 0, 0⟩) (t' := ⟨t, 0, 0⟩) ⟨hg, rfl⟩
  rw [hb] at this
  exact this
theorem nm_back (m' : Bool) {l : List UInt8} (h : rightL l = true) (hl : l.length ≤ 100) : parseT m' ([36, 91] ++ txtL 39 l ++ [93]) = .ok (nmP l) := by
  have hlen : (showT (nmP l)).length ≤ 4096 := by
    have := txt_len l
    rw [nmP_show]; simp only [List.length_append, List.length_cons, List.length_nil]; omega
  have h3 := back_of m' (nmP_wf h) (nmP_fit l) rfl hlen
  rw [nmP_show] at h3
  exact h3

end

end Go.Proofs.YtpcbcodmocmilaaGreatDoor
