/- G24: Xa, Xb joined. -/
import Derived.Test.YtpcbcodmocmilaaDoorG23
import Derived.Test.YtpcbcodmocmilaaDoorUp
namespace Go.Proofs.YtpcbcodmocmilaaDoor
open Go.RowKit
/- ref09's Scalar and Put in the words of the ranges; plain. -/
section
open Go.RowKit

theorem u8_of (x : Int) (a : UInt8) (h : 0 ≤ x) (h' : x < 256) : UInt8.ofNat x.toNat = a ↔ x = (a.toNat : Int) := by
  rw [← UInt8.toNat_inj]
  simp
  omega
theorem str_ext {xs : List Int} {s : ByteArray} {n : Nat} : strOfNums xs = s.extract 0 n ↔ (xs.map fun x => UInt8.ofNat x.toNat) = s.data.toList.take n := by
  rw [← strOfNums_data, ← ext_take]
  constructor
  · intro h; rw [h]
  · intro h; exact (bs_of h).trans (bs_of rfl).symm
theorem bI_bs (l : List UInt8) (i : Nat) : bI (bs l) i = ((l.getD i 0).toNat : Int) := by unfold bI; rw [bs_list]
theorem sz_bs (l : List UInt8) : (bs l).size = l.length := by rw [← len_toList, bs_list]
theorem put2 (a b : UInt8) (r : List UInt8) (h1 : 192 ≤ (a.toNat : Int)) (h2 : (a.toNat : Int) < 224) :
    strOfNums (putI (cd2 (a.toNat : Int) (b.toNat : Int))) = (bs (a :: b :: r)).extract 0 2 ↔ (194 ≤ (a.toNat : Int) ∧ 128 ≤ (b.toNat : Int) ∧ (b.toNat : Int) ≤ 191) := by
  have hb := b.toNat_lt
  rw [str_ext, bs_list]
  unfold putI cd2
  rw [if_neg (by omega)]
  by_cases h3 : ((a.toNat : Int) - 192) * 64 + (b.toNat : Int) % 64 < 128
  · rw [if_pos h3]
    constructor
    · intro h; have := congrArg List.length h; simp at this
    · intro h; omega
  · rw [if_neg h3, if_pos (by omega)]
    simp only [List.map_cons, List.map_nil, List.take_succ_cons, List.take_zero, List.cons.injEq, and_true]
    rw [u8_of _ _ (by omega) (by omega), u8_of _ _ (by omega) (by omega)]
    constructor
    · intro h; omega
    · intro h; omega
theorem put3 (a b c : UInt8) (r : List UInt8) (h1 : 224 ≤ (a.toNat : Int)) (h2 : (a.toNat : Int) < 240) :
    strOfNums (putI (cd3 (a.toNat : Int) (b.toNat : Int) (c.toNat : Int))) = (bs (a :: b :: c :: r)).extract 0 3 ↔
    ((if (a.toNat : Int) = 224 then 160 else 128) ≤ (b.toNat : Int) ∧ (b.toNat : Int) ≤ (if (a.toNat : Int) = 237 then 159 else 191) ∧ 128 ≤ (c.toNat : Int) ∧ (c.toNat : Int) ≤ 191) := by
  have hb := b.toNat_lt
  have hc := c.toNat_lt
  rw [str_ext, bs_list]
  unfold putI cd3
  obtain ⟨v, hv⟩ : ∃ v, (((a.toNat : Int) - 224) * 64 + (b.toNat : Int) % 64) * 64 + (c.toNat : Int) % 64 = v := ⟨_, rfl⟩
  rw [hv]
  by_cases h3 : v < 0 ∨ 1114111 < v ∨ (55296 ≤ v ∧ v ≤ 57343)
  · rw [if_pos h3]
    constructor
    · intro h; have := congrArg List.length h; simp at this
    · intro h; exfalso; have k1 := h.1; have k2 := h.2.1; split at k1 <;> split at k2 <;> omega
  · rw [if_neg h3]
    by_cases h4 : v < 128
    · rw [if_pos h4]
      constructor
      · intro h; have := congrArg List.length h; simp at this
      · intro h; exfalso; have k1 := h.1; have k2 := h.2.1; split at k1 <;> split at k2 <;> omega
    · rw [if_neg h4]
      by_cases h5 : v < 2048
      · rw [if_pos h5]
        constructor
        · intro h; have := congrArg List.length h; simp at this
        · intro h; exfalso; have k1 := h.1; have k2 := h.2.1; split at k1 <;> split at k2 <;> omega
      · rw [if_neg h5, if_pos (by omega)]
        simp only [List.map_cons, List.map_nil, List.take_succ_cons, List.take_zero, List.cons.injEq, and_true]
        rw [u8_of _ _ (by omega) (by omega), u8_of _ _ (by omega) (by omega), u8_of _ _ (by omega) (by omega)]
        constructor
        · intro h
          refine ⟨?_, ?_, by omega, by omega⟩
          · split <;> omega
          · split <;> omega
        · intro h; have k1 := h.1; have k2 := h.2.1
          split at k1 <;> split at k2 <;> omega
theorem put4 (a b c d : UInt8) (r : List UInt8) (h1 : 240 ≤ (a.toNat : Int)) (h2 : (a.toNat : Int) < 248) :
    strOfNums (putI (cd4 (a.toNat : Int) (b.toNat : Int) (c.toNat : Int) (d.toNat : Int))) = (bs (a :: b :: c :: d :: r)).extract 0 4 ↔
    ((a.toNat : Int) ≤ 244 ∧ (if (a.toNat : Int) = 240 then 144 else 128) ≤ (b.toNat : Int) ∧ (b.toNat : Int) ≤ (if (a.toNat : Int) = 244 then 143 else 191) ∧ 128 ≤ (c.toNat : Int) ∧ (c.toNat : Int) ≤ 191 ∧ 128 ≤ (d.toNat : Int) ∧ (d.toNat : Int) ≤ 191) := by
  have hb := b.toNat_lt
  have hc := c.toNat_lt
  have hd := d.toNat_lt
  rw [str_ext, bs_list]
  unfold putI cd4
  obtain ⟨v, hv⟩ : ∃ v, ((((a.toNat : Int) - 240) * 64 + (b.toNat : Int) % 64) * 64 + (c.toNat : Int) % 64) * 64 + (d.toNat : Int) % 64 = v := ⟨_, rfl⟩
  rw [hv]
  by_cases h3 : v < 0 ∨ 1114111 < v ∨ (55296 ≤ v ∧ v ≤ 57343)
  · rw [if_pos h3]
    constructor
    · intro h; have := congrArg List.length h; simp at this
    · intro h; exfalso; have k1 := h.2.1; have k2 := h.2.2.1; split at k1 <;> split at k2 <;> omega
  · rw [if_neg h3]
    by_cases h4 : v < 65536
    · constructor
      · intro h
        exfalso
        have := congrArg List.length h
        simp only [List.length_map, List.length_take, List.length_cons] at this
        revert this
        (repeat' split) <;> simp <;> omega
      · intro h; exfalso; have k1 := h.2.1; have k2 := h.2.2.1; split at k1 <;> split at k2 <;> omega
    · rw [if_neg (by omega), if_neg (by omega), if_neg h4]
      simp only [List.map_cons, List.map_nil, List.take_succ_cons, List.take_zero, List.cons.injEq, and_true]
      rw [u8_of _ _ (by omega) (by omega), u8_of _ _ (by omega) (by omega), u8_of _ _ (by omega) (by omega), u8_of _ _ (by omega) (by omega)]
      constructor
      · intro h
        refine ⟨by omega, ?_, ?_, by omega, by omega, by omega, by omega⟩
        · split <;> omega
        · split <;> omega
      · intro h; have k1 := h.2.1; have k2 := h.2.2.1
        split at k1 <;> split at k2 <;> omega
theorem scalM_V (s : ByteArray) : scalM s = scalV s.data.toList := by
  obtain ⟨l, hl⟩ : ∃ l, s.data.toList = l := ⟨_, rfl⟩
  obtain rfl : s = bs l := bs_of hl
  rw [bs_list]
  unfold scalM code2 code3 code4
  simp only [bI_bs, sz_bs]
  match l with
  | [] => rfl
  | a :: l =>
    have ha := a.toNat_lt
    rw [if_neg (by simp)]
    unfold scalV
    simp only [List.getD_cons_zero]
    by_cases h1 : (a.toNat : Int) < 128
    · rw [if_pos h1, if_pos h1]
    · rw [if_neg h1, if_neg h1]
      by_cases h2 : (a.toNat : Int) < 192
      · rw [if_pos h2, if_neg (by omega), if_neg (by omega), if_neg (by omega)]
      · rw [if_neg h2]
        by_cases h3 : (a.toNat : Int) < 224
        · rw [if_pos h3]
          match l with
          | [] =>
            rw [if_pos (by simp)]
            (repeat' split) <;> first | rfl | (exfalso; simp_all; done) | omega
          | b :: r =>
            rw [if_neg (by simp)]
            simp only [List.getD_cons_succ, List.getD_cons_zero]
            by_cases hC : 194 ≤ (a.toNat : Int) ∧ 128 ≤ (b.toNat : Int) ∧ (b.toNat : Int) ≤ 191
            · rw [if_pos ((put2 a b r (by omega) h3).2 hC), if_pos (show 194 ≤ (a.toNat : Int) ∧ (a.toNat : Int) ≤ 223 by omega), if_pos (show 128 ≤ (b.toNat : Int) ∧ (b.toNat : Int) ≤ 191 by omega)]
              unfold cd2
              rw [show (b.toNat : Int) % 64 = (b.toNat : Int) - 128 by omega]
            · rw [if_neg (fun h => hC ((put2 a b r (by omega) h3).1 h))]
              by_cases h4 : 194 ≤ (a.toNat : Int) ∧ (a.toNat : Int) ≤ 223
              · rw [if_pos h4, if_neg (by omega)]
              · rw [if_neg h4, if_neg (by omega), if_neg (by omega)]
        · rw [if_neg h3]
          rw [if_neg (show ¬ (194 ≤ (a.toNat : Int) ∧ (a.toNat : Int) ≤ 223) by omega)]
          by_cases h4 : (a.toNat : Int) < 240
          · rw [if_pos h4, if_pos (show 224 ≤ (a.toNat : Int) ∧ (a.toNat : Int) ≤ 239 by omega)]
            match l with
            | [] => rw [if_pos (by simp)]
            | [_] => rw [if_pos (by simp)]
            | b :: c :: r =>
              rw [if_neg (by simp)]
              simp only [List.getD_cons_succ, List.getD_cons_zero]
              by_cases hC : (if (a.toNat : Int) = 224 then 160 else 128) ≤ (b.toNat : Int) ∧ (b.toNat : Int) ≤ (if (a.toNat : Int) = 237 then 159 else 191) ∧ 128 ≤ (c.toNat : Int) ∧ (c.toNat : Int) ≤ 191
              · rw [if_pos ((put3 a b c r (by omega) h4).2 hC), if_pos hC]
                unfold cd3
                have k1 := hC.1
                have k2 := hC.2.1
                have e1 : (b.toNat : Int) % 64 = (b.toNat : Int) - 128 := by split at k1 <;> split at k2 <;> omega
                have e2 : (c.toNat : Int) % 64 = (c.toNat : Int) - 128 := by omega
                rw [e1, e2]
              · rw [if_neg (fun h => hC ((put3 a b c r (by omega) h4).1 h)), if_neg hC]
          · rw [if_neg h4, if_neg (show ¬ (224 ≤ (a.toNat : Int) ∧ (a.toNat : Int) ≤ 239) by omega)]
            by_cases h5 : (a.toNat : Int) < 248
            · rw [if_pos h5]
              match l with
              | [] => rw [if_pos (by simp)]; (repeat' split) <;> first | rfl | (exfalso; simp_all; done)
              | [_] => rw [if_pos (by simp)]; (repeat' split) <;> first | rfl | (exfalso; simp_all; done)
              | [_, _] => rw [if_pos (by simp)]; (repeat' split) <;> first | rfl | (exfalso; simp_all; done)
              | b :: c :: d :: r =>
                rw [if_neg (by simp)]
                simp only [List.getD_cons_succ, List.getD_cons_zero]
                by_cases hC : (a.toNat : Int) ≤ 244 ∧ (if (a.toNat : Int) = 240 then 144 else 128) ≤ (b.toNat : Int) ∧ (b.toNat : Int) ≤ (if (a.toNat : Int) = 244 then 143 else 191) ∧ 128 ≤ (c.toNat : Int) ∧ (c.toNat : Int) ≤ 191 ∧ 128 ≤ (d.toNat : Int) ∧ (d.toNat : Int) ≤ 191
                · rw [if_pos ((put4 a b c d r (by omega) h5).2 hC), if_pos (show 240 ≤ (a.toNat : Int) ∧ (a.toNat : Int) ≤ 244 by omega), if_pos hC.2]
                  unfold cd4
                  have k1 := hC.2.1
                  have k2 := hC.2.2.1
                  have e1 : (b.toNat : Int) % 64 = (b.toNat : Int) - 128 := by split at k1 <;> split at k2 <;> omega
                  have e2 : (c.toNat : Int) % 64 = (c.toNat : Int) - 128 := by omega
                  have e3 : (d.toNat : Int) % 64 = (d.toNat : Int) - 128 := by omega
                  rw [e1, e2, e3]
                · rw [if_neg (fun h => hC ((put4 a b c d r (by omega) h5).1 h))]
                  by_cases h6 : 240 ≤ (a.toNat : Int) ∧ (a.toNat : Int) ≤ 244
                  · rw [if_pos h6, if_neg (fun h => hC ⟨h6.2, h⟩)]
                  · rw [if_neg h6]
            · rw [if_neg h5, if_neg (by omega)]
/-- With which scalar bytes begin (the reference's own). -/
theorem rscal_at (s : ByteArray) (c n : Int) (w : World) (hs : s.size ≤ maxLen) (h : Hid (scalV s.data.toList = (c, n))) :
    Calls Tryd.prog 63 #[.string s] w fun e w' => e = .returned (.tuple #[.int .i64 c, .int .i64 n]) ∧ Below w.heap.size w w' := by
  have := scal_any s w hs
  unfold SCAL at this
  rw [scalM_V, h.out] at this; exact this
theorem rput_at (c : Int) (w : World) (h : okS c) :
    Calls Tryd.prog 62 #[.int .i64 c] w fun e w' => e = .returned (.string (bs (putV c))) ∧ Below w.heap.size w w' := by
  have h' := h
  unfold okS at h'
  rw [← put_val c h]; exact put_any c w h'.1 (by omega)
theorem scalV_z (l : List UInt8) (h : (scalV l).2 = 0) : scalV l = (0, 0) := by
  have key : ∀ x : Int × Int, (x = (0, 0) ∨ x.2 ≠ 0) → x.2 = 0 → x = (0, 0) := fun x h1 h2 => h1.resolve_right (fun h3 => h3 h2)
  refine key _ ?_ h
  clear h
  cases l with
  | nil => exact .inl rfl
  | cons b0 r =>
    unfold scalV
    simp only
    (repeat' split) <;> first | exact .inl rfl | exact .inr (by simp)

end
/- ref16: hex, unit. -/
section
open Go.RowKit

theorem hexI (c : UInt8) : uval (hexV c) = if 48 ≤ (c.toNat : Int) ∧ (c.toNat : Int) ≤ 57 then (c.toNat : Int) - 48 else if 97 ≤ (c.toNat : Int) ∧ (c.toNat : Int) ≤ 102 then (c.toNat : Int) - 87 else if 65 ≤ (c.toNat : Int) ∧ (c.toNat : Int) ≤ 70 then (c.toNat : Int) - 55 else -1 := by
  unfold hexV uval
  by_cases h1 : 48 ≤ c.toNat ∧ c.toNat ≤ 57
  · rw [if_pos h1, if_pos (show (48 ≤ (c.toNat : Int) ∧ (c.toNat : Int) ≤ 57) by omega)]; rfl
  · rw [if_neg h1, if_neg (show ¬ (48 ≤ (c.toNat : Int) ∧ (c.toNat : Int) ≤ 57) by omega)]
    by_cases h2 : 97 ≤ c.toNat ∧ c.toNat ≤ 102
    · rw [if_pos h2, if_pos (show (97 ≤ (c.toNat : Int) ∧ (c.toNat : Int) ≤ 102) by omega)]; rfl
    · rw [if_neg h2, if_neg (show ¬ (97 ≤ (c.toNat : Int) ∧ (c.toNat : Int) ≤ 102) by omega)]
      by_cases h3 : 65 ≤ c.toNat ∧ c.toNat ≤ 70
      · rw [if_pos h3, if_pos (show (65 ≤ (c.toNat : Int) ∧ (c.toNat : Int) ≤ 70) by omega)]; rfl
      · rw [if_neg h3, if_neg (show ¬ (65 ≤ (c.toNat : Int) ∧ (c.toNat : Int) ≤ 70) by omega)]; rfl
theorem uval_bd (c : UInt8) : -1 ≤ uval (hexV c) ∧ uval (hexV c) < 16 := by
  rw [hexI]; (repeat' split) <;> omega

set_option maxHeartbeats 400000 in
theorem rhex_any (c : UInt8) (w : World) :
    Calls Tryd.prog 108 #[.int .u8 (c.toNat : Int)] w fun e w' => e = .returned (.int .i64 (uval (hexV c))) ∧ w = w' := by
  have hc := c.toNat_lt
  have HE := Lib.hid (hexI c)
  go_enter Tryd.func108, Tryd.ntmps108
  go_wp2
  all_goals (go_ret; exact ⟨ret_int (by rw [HE.out]; (repeat' split) <;> omega), rfl⟩)
theorem rhex_at (c : UInt8) (d : Int) (w : World) (h : Hid (uval (hexV c) = d)) :
    Calls Tryd.prog 108 #[.int .u8 (c.toNat : Int)] w fun e w' => e = .returned (.int .i64 d) ∧ w = w' := by
  rw [← h.out]; exact rhex_any c w

/-- 5c, u and four digits. -/
def runitV (l : List UInt8) : Option Int := if hd l 92 && hd (l.drop 1) 117 then unitV (l.drop 2) else none
theorem runitV_bd (l : List UInt8) : -1 ≤ uval (runitV l) ∧ uval (runitV l) < 65536 := by
  unfold runitV
  split
  · cases h : unitV (l.drop 2) with
    | none => unfold uval; simp
    | some a => have := unitV_bd h; unfold uval; simp; omega
  · unfold uval; simp

set_option maxRecDepth 100000 in
set_option maxHeartbeats 2000000 in
theorem runit_at (s : ByteArray) (a : Nat) (u : Int) (w : World) (hs : s.size ≤ 1000000) (ha : a ≤ s.size + 6) (h : Hid (uval (runitV (dr s a)) = u)) :
    Calls Tryd.prog 87 #[.string s, .int .i64 (a : Int)] w fun e w' => e = .returned (.int .i64 u) ∧ w = w' := by
  by_cases h6 : s.size < a + 6
  · have HE := Lib.hid (show u = -1 by
      rw [← h.out]; unfold runitV
      simp only [dr_dr]
      rw [unit_short (dr s (a + 2)) (by unfold dr; rw [List.length_drop, len_toList]; omega)]
      split <;> rfl)
    have h6' : (s.size : Int) - (a : Int) < 6 := by omega
    clear h6
    go_enter Tryd.func87, Tryd.ntmps87
    go_wp2
    go_ret
    exact ⟨ret_int (by rw [HE.out]), rfl⟩
  · have h6' : ¬ (s.size : Int) - (a : Int) < 6 := by omega
    have e0 : dr s a = s[a] :: dr s (a + 1) := drop_cons s a (by omega)
    have e1 : dr s (a + 1) = s[a + 1] :: dr s (a + 2) := drop_cons s (a + 1) (by omega)
    have hb0 := s[a].toNat_lt
    have hb1 := s[a + 1].toNat_lt
    by_cases c0 : s[a] = 92
    · by_cases c1 : s[a + 1] = 117
      · have t0 : ((s[a].toNat : Int) != 92) = false := by rw [c0]; rfl
        have t1 : ((s[a + 1].toNat : Int) != 117) = false := by rw [c1]; rfl
        have HU := Lib.hid (show u = uval (hexF 4 (dr s (a + 2)) 0) by
          rw [← h.out, ← unit_hexF _ (by unfold dr; rw [List.length_drop, len_toList]; omega)]
          unfold runitV
          simp only [dr_dr]
          rw [e0, e1]
          rw [if_pos (by rw [c0, c1]; rfl)])
        clear c0 c1 e0 e1
        go_enter Tryd.func87, Tryd.ntmps87
        go_wp2
        go_loop [5, 6] (fun x v => ∃ (i : Nat) (n : Int), 2 ≤ i ∧ i ≤ 6 ∧ 0 ≤ n ∧ ((i = 2 ∧ n < 1) ∨ (i = 3 ∧ n < 16) ∨ (i = 4 ∧ n < 256) ∨ (i = 5 ∧ n < 4096) ∨ (i = 6 ∧ n < 65536)) ∧ Hid (u = uval (hexF (6 - i) (dr s (a + i)) n)) ∧ x = .int .i64 n ∧ v = .int .i64 i) (fun _ v => 6 - (intOf v).toNat)
        case atStart => exact ⟨2, 0, by omega, by omega, by omega, .inl ⟨rfl, by omega⟩, HU, rfl, rfl⟩
        case round =>
          clear HU
          obtain ⟨i, n, hi2, hi, hn0, hn, HF, rfl, rfl⟩ := hrel
          have HN := Lib.hid hn
          have hn1 : n < 65536 := by omega
          clear hn
          by_cases hlt : i < 6
          · have hlt2 : a + i < s.size := by omega
            have hbi := s[a + i].toNat_lt
            obtain ⟨d, hd⟩ : ∃ d, uval (hexV s[a + i]) = d := ⟨_, rfl⟩
            obtain ⟨hd0, hd1⟩ := uval_bd s[a + i]
            rw [hd] at hd0 hd1
            have hstep : hexF (6 - i) (dr s (a + i)) n = match hexV s[a + i] with | some d => hexF (6 - (i + 1)) (dr s (a + (i + 1))) (n * 16 + d) | none => none := by
              rw [show 6 - i = (6 - (i + 1)) + 1 by omega, show dr s (a + i) = s[a + i] :: dr s (a + i + 1) from drop_cons s (a + i) hlt2]; rfl
            have HD := Lib.hid hd
            by_cases h1 : d < 0
            · have HE := Lib.hid (show u = -1 by
                rw [HF.out, hstep]
                cases hx : hexV s[a + i] with
                | none => rfl
                | some y => rw [hx] at hd; have := hexV_bd hx; unfold uval at hd; simp at hd; omega)
              clear hstep hd HF
              go_wp2_with (go_at_call 108; refine (rhex_at _ _ _ HD).mono ?_; rintro e w' ⟨rfl, rfl⟩)
              go_ret
              exact ⟨ret_int (by rw [HE.out]), rfl⟩
            · have HF := Lib.hid (show u = uval (hexF (6 - (i + 1)) (dr s (a + (i + 1))) (n * 16 + d)) by
                rw [HF.out, hstep]
                cases hx : hexV s[a + i] with
                | none => rw [hx] at hd; unfold uval at hd; simp at hd; omega
                | some y => rw [hx] at hd; unfold uval at hd; simp at hd; rw [hd])
              have h3 : 0 ≤ d := by omega
              have HN2 := Lib.hid (show (i + 1 = 2 ∧ n * 16 + d < 1) ∨ (i + 1 = 3 ∧ n * 16 + d < 16) ∨ (i + 1 = 4 ∧ n * 16 + d < 256) ∨ (i + 1 = 5 ∧ n * 16 + d < 4096) ∨ (i + 1 = 6 ∧ n * 16 + d < 65536) by have := HN.out; omega)
              clear hstep hd
              go_wp2_with (go_at_call 108; refine (rhex_at _ _ _ HD).mono ?_; rintro e w' ⟨rfl, rfl⟩)
              go_round
              case rel => exact ⟨i + 1, n * 16 + d, by omega, by omega, by omega, HN2.out, HF, rfl, by go_num⟩
              case measure => simp [intOf] <;> omega
          · have HE := Lib.hid (show u = n by rw [HF.out, show 6 - i = 0 by omega]; rfl)
            go_wp2
            go_ret
            exact ⟨ret_int (by rw [HE.out]), rfl⟩
      · have t0 : ((s[a].toNat : Int) != 92) = false := by rw [c0]; rfl
        have t1 : ((s[a + 1].toNat : Int) != 117) = true := by rw [bne_iff_ne]; intro e; apply c1; rw [← UInt8.toNat_inj]; simp; omega
        have HE := Lib.hid (show u = -1 by
          rw [← h.out]; unfold runitV
          simp only [dr_dr]
          rw [e0, e1, if_neg]
          · rfl
          · simp [hd, c1])
        clear c0 c1 e0 e1
        go_enter Tryd.func87, Tryd.ntmps87
        go_wp2
        go_ret
        exact ⟨ret_int (by rw [HE.out]), rfl⟩
    · have t0 : ((s[a].toNat : Int) != 92) = true := by rw [bne_iff_ne]; intro e; apply c0; rw [← UInt8.toNat_inj]; simp; omega
      have HE := Lib.hid (show u = -1 by
        rw [← h.out]; unfold runitV
        simp only [dr_dr]
        rw [e0, if_neg]
        · rfl
        · simp [hd, c0])
      clear c0 e0 e1
      go_enter Tryd.func87, Tryd.ntmps87
      go_wp2
      go_ret
      exact ⟨ret_int (by rw [HE.out]), rfl⟩

end

end Go.Proofs.YtpcbcodmocmilaaDoor
