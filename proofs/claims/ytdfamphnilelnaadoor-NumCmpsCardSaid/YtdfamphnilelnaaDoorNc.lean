/- num: power, trimmed. -/
import Derived.Deep.LoopGhost
import Derived.Deep.CutBlock
import Derived.Test.YtdfamphnilelnaaDoorNa
namespace Go.Proofs.YtdfamphnilelnaaDoor
open Go.RowKit

/-- An exponent's digits, cut. -/
def foldE (cap : Int) (n : Int) : List UInt8 → Int
  | [] => n
  | c :: r => foldE cap (if cap < n * 10 + ((c.toNat : Int) - 48) % 256 then cap else n * 10 + ((c.toNat : Int) - 48) % 256) r
def far : Int := 1099511627776
def powI (l : List UInt8) : Int :=
  if l = [] then 0 else if hd l 45 then -(foldE far 0 (l.drop 1)) else if hd l 43 then foldE far 0 (l.drop 1) else foldE far 0 l
theorem foldE_bd (cap : Int) (h : 0 ≤ cap) : ∀ (l : List UInt8) (n : Int), 0 ≤ n → n ≤ cap → 0 ≤ foldE cap n l ∧ foldE cap n l ≤ cap
  | [], n, h1, h2 => ⟨h1, h2⟩
  | c :: r, n, h1, h2 => by
    rw [foldE]
    split
    · exact foldE_bd cap h r _ h (by omega)
    · exact foldE_bd cap h r _ (by omega) (by omega)
theorem powI_bd (l : List UInt8) : -1099511627776 ≤ powI l ∧ powI l ≤ 1099511627776 := by
  have h := fun l => foldE_bd far (by unfold far; omega) l 0 (by omega) (by unfold far; omega)
  have h1 := h l; have h2 := h (l.drop 1)
  unfold far at *
  unfold powI far; split
  · omega
  · split
    · omega
    · split <;> omega

set_option maxRecDepth 100000 in
set_option maxHeartbeats 2000000 in
theorem power_any (s : ByteArray) (w : World) (hs : s.size ≤ 100000) :
    Calls Tryd.prog 25 #[.string s] w fun e w' => e = .returned (.int .i64 (powI s.data.toList)) ∧ w = w' := by
  rcases Nat.eq_zero_or_pos s.size with h0 | h0
  · have h1 := te_t h0
    have HN := Lib.hid (show powI s.data.toList = 0 by rw [powI, if_pos (List.eq_nil_of_length_eq_zero (by simpa using h0))])
    clear h0
    go_enter Tryd.func25, Tryd.ntmps25
    go_wp2
    go_ret
    exact ⟨ret_int HN.out.symm, rfl⟩
  · have h1 := te_f h0
    have e45 := hd_i' (s := s) (p := 0) (c := 45) (n := 45) h0 rfl
    have e43 := hd_i' (s := s) (p := 0) (c := 43) (n := 43) h0 rfl
    have HP := Lib.hid (show powI s.data.toList = if ((s[0].toNat : Int) == 45) = true then -(foldE far 0 (s.extract 1 s.size).data.toList) else if ((s[0].toNat : Int) == 43) = true then foldE far 0 (s.extract 1 s.size).data.toList else foldE far 0 s.data.toList by rw [powI, if_neg (ne_nil h0), e45, e43, ext_drop]; rfl)
    clear e45 e43
    have hi1 : (1 : Int) ≤ s.size := by omega
    obtain ⟨b, hb⟩ : ∃ b, ((s[0].toNat : Int) == 45) = b := ⟨_, rfl⟩
    obtain ⟨c, hc⟩ : ∃ c, ((s[0].toNat : Int) == 43) = c := ⟨_, rfl⟩
    rw [hb, hc] at HP
    go_enter Tryd.func25, Tryd.ntmps25
    go_upto_region 4 with fail
    go_cut [16] (fun v wx => v = .bool (b || c) ∧ wx = w)
    case first =>
      cases b
      all_goals
        go_wp2
        go_meet
        case rel => exact ⟨by simp, rfl⟩
    case rest =>
      obtain ⟨rfl, rfl⟩ := hcut
      go_upto_if 16 with fail
      go_cut [0] (fun v wx => ∃ t : ByteArray, v = .string t ∧ t.size ≤ s.size ∧ Hid (powI s.data.toList = if b = true then -(foldE far 0 t.data.toList) else foldE far 0 t.data.toList) ∧ wx = wc)
      case first =>
        cases b
        · simp only [Bool.false_or]
          cases c
          · have HP := Lib.hid (show powI s.data.toList = if false = true then -(foldE far 0 s.data.toList) else foldE far 0 s.data.toList from HP.out)
            go_wp2
            go_meet
            case rel => exact ⟨s, rfl, by omega, HP, rfl⟩
          · have HP := Lib.hid (show powI s.data.toList = if false = true then -(foldE far 0 (s.extract 1 s.size).data.toList) else foldE far 0 (s.extract 1 s.size).data.toList from HP.out)
            go_wp2
            go_meet
            case rel => exact ⟨s.extract 1 s.size, rfl, by simp, HP, rfl⟩
        · simp only [Bool.true_or]
          have HP := Lib.hid (show powI s.data.toList = if true = true then -(foldE far 0 (s.extract 1 s.size).data.toList) else foldE far 0 (s.extract 1 s.size).data.toList from HP.out)
          go_wp2
          go_meet
          case rel => exact ⟨s.extract 1 s.size, rfl, by simp, HP, rfl⟩
      case rest =>
        clear HP
        obtain ⟨t, rfl, ht, HP, rfl⟩ := hcut
        go_wp2
        go_loop [4, 21] (fun v i => ∃ (k : Nat) (x : Int), k ≤ t.size ∧ 0 ≤ x ∧ x ≤ 1099511627776 ∧ v = .int .i64 x ∧ i = .int .i64 k ∧ Hid (foldE far 0 t.data.toList = foldE far x (dr t k))) (fun _ i => t.size - (intOf i).toNat)
        case atStart => exact ⟨0, 0, by omega, by omega, by omega, rfl, rfl, Lib.hid rfl⟩
        case round =>
          obtain ⟨k, x, hk, hx0, hx1, rfl, rfl, HF⟩ := hrel
          by_cases hlt : k < t.size
          · have HF2 := Lib.hid (show foldE far 0 t.data.toList = foldE far (if 1099511627776 < x * 10 + ((t[k].toNat : Int) - 48) % 256 then 1099511627776 else x * 10 + ((t[k].toNat : Int) - 48) % 256) (dr t (k + 1)) by rw [HF.out]; unfold dr; rw [drop_cons t k hlt, foldE]; rfl)
            go_wp2
            all_goals
              go_round
              case rel => exact ⟨k + 1, _, by omega, by split <;> omega, by split <;> omega, rfl, by go_num, HF2⟩
              case measure => simp [intOf]; omega
          · have HF2 := Lib.hid (show foldE far 0 t.data.toList = x by rw [HF.out]; unfold dr; rw [drop_nil t k (by omega)]; rfl)
            clear HF
            cases b
            · have HQ := Lib.hid (HP.out.trans (by rw [HF2.out]; rfl : _ = x))
              clear HP
              go_wp2
              go_ret
              exact ⟨ret_int HQ.out.symm, rfl⟩
            · have HQ := Lib.hid (HP.out.trans (by rw [HF2.out]; rfl : _ = -x))
              clear HP
              go_wp2
              go_ret
              exact ⟨ret_int HQ.out.symm, rfl⟩

/-- Without noughts ahead; behind. -/
def tF : List UInt8 → List UInt8
  | [] => []
  | c :: r => if c = 48 then tF r else c :: r
def tB (l : List UInt8) : List UInt8 := (tF l.reverse).reverse
theorem tF_len : ∀ l : List UInt8, (tF l).length ≤ l.length
  | [] => Nat.le_refl _
  | c :: r => by rw [tF]; split <;> simp; have := tF_len r; omega
structure NV where
  m : Bool
  d : List UInt8
  p : Int
def trimV (v : NV) : NV := if tB (tF v.d) = [] then ⟨false, [], 0⟩ else ⟨v.m, tB (tF v.d), v.p - ((v.d.length : Int) - ((tF v.d).length : Int))⟩
def valV (v : NV) : Value := .agg #[.bool v.m, .string (bs v.d), .int .i64 v.p]
theorem tF_step {t : ByteArray} (h : 0 < t.size) (e : ((t[0].toNat : Int) == 48) = true) : tF t.data.toList = tF (t.extract 1 t.size).data.toList := by
  have hc : t.data.toList = t[0] :: t.data.toList.drop 1 := by have := drop_cons t 0 h; simpa using this
  rw [ext_drop]
  conv => lhs; rw [hc, tF]
  rw [if_pos (by rw [← UInt8.toNat_inj]; have := beq_iff_eq.1 e; have h48 : (48 : UInt8).toNat = 48 := rfl; omega)]
theorem tF_stop {t : ByteArray} (h : 0 < t.size) (e : ((t[0].toNat : Int) == 48) = false) : tF t.data.toList = t.data.toList := by
  have hc : t.data.toList = t[0] :: t.data.toList.drop 1 := by have := drop_cons t 0 h; simpa using this
  rw [hc, tF, if_neg]
  intro e2; rw [e2] at e; exact absurd e (by decide)
theorem rev_last {t : ByteArray} (h : t.size - 1 < t.size) : t.data.toList.reverse = t[t.size - 1] :: (t.extract 0 (t.size - 1)).data.toList.reverse := by
  rw [ext_take]
  have hl := len_toList t
  have e : t.data.toList = t.data.toList.take (t.size - 1) ++ [t[t.size - 1]] := by
    conv => lhs; rw [← List.take_append_drop (t.size - 1) t.data.toList, drop_cons t (t.size - 1) h]
    rw [drop_nil t _ (by omega)]
  conv => lhs; rw [e]
  simp
theorem tB_step {t : ByteArray} (h : t.size - 1 < t.size) (e : ((t[t.size - 1].toNat : Int) == 48) = true) : tB t.data.toList = tB (t.extract 0 (t.size - 1)).data.toList := by
  unfold tB
  rw [rev_last h, tF, if_pos (by rw [← UInt8.toNat_inj]; have := beq_iff_eq.1 e; have h48 : (48 : UInt8).toNat = 48 := rfl; omega)]
theorem tB_stop {t : ByteArray} (h : t.size - 1 < t.size) (e : ((t[t.size - 1].toNat : Int) == 48) = false) : tB t.data.toList = t.data.toList := by
  unfold tB
  rw [rev_last h, tF, if_neg, ← rev_last h, List.reverse_reverse]
  intro e2; rw [e2] at e; exact absurd e (by decide)

set_option maxRecDepth 100000 in
set_option maxHeartbeats 2000000 in
theorem trimmed_any (m : Bool) (s : ByteArray) (p : Int) (w : World) (hs : s.size ≤ 100000) (hp0 : -1000000000000000 ≤ p) (hp1 : p ≤ 1000000000000000) :
    Calls Tryd.prog 24 #[.agg #[.bool m, .string s, .int .i64 p]] w fun e w' => e = .returned (valV (trimV ⟨m, s.data.toList, p⟩)) ∧ Bel w.heap.size w w' := by
  go_enter Tryd.func24, Tryd.ntmps24
  go_upto_block 0 with fail
  go_cut [11] (fun _ wx => ∃ (t : ByteArray) (q : Int), t.size ≤ s.size ∧ Hid (tF s.data.toList = t.data.toList ∧ p - (s.size : Int) = q - (t.size : Int)) ∧ wx = ((w.alloc (.cells #[.bool m, .string t, .int .i64 q] 40)).alloc (.cells #[.bool false, .string ⟨#[]⟩, .int .i64 0] 40)))
  case first =>
    go_wp2
    go_loopg [11] s.size (fun k _ wr => ∃ (t : ByteArray) (q : Int), k = t.size ∧ t.size ≤ s.size ∧ -1000000000000000 - s.size + t.size ≤ q ∧ q ≤ 1000000000000000 ∧ Hid (tF s.data.toList = tF t.data.toList ∧ p - (s.size : Int) = q - (t.size : Int)) ∧ wr = ((w.alloc (.cells #[.bool m, .string t, .int .i64 q] 40)).alloc (.cells #[.bool false, .string ⟨#[]⟩, .int .i64 0] 40)))
    case atStart => exact ⟨s, p, rfl, Nat.le_refl _, by omega, by omega, Lib.hid ⟨rfl, rfl⟩, rfl⟩
    case round =>
      obtain ⟨t, q, hgk, hts, hq0, hq1, HT, rfl⟩ := hrel
      have HGK := Lib.hid hgk; clear hgk
      rcases Nat.eq_zero_or_pos t.size with h0 | h0
      · have h1 := te_t h0
        have HT := Lib.hid (show tF s.data.toList = t.data.toList ∧ p - (s.size : Int) = q - (t.size : Int) by
          have e : t.data.toList = [] := List.eq_nil_of_length_eq_zero (by simpa using h0)
          refine ⟨HT.out.1.trans ?_, HT.out.2⟩
          rw [e]; rfl)
        clear h0
        go_wp2
        go_meet
        case rel => exact ⟨t, q, hts, HT, rfl⟩
      · have h1 := te_f h0
        cases hx : ((t[0].toNat : Int) == 48) with
        | true =>
          have HT := Lib.hid (show tF s.data.toList = tF (t.extract 1 t.size).data.toList ∧ p - (s.size : Int) = q - 1 - ((t.extract 1 t.size).size : Int) from ⟨HT.out.1.trans (tF_step h0 hx), by have := HT.out.2; simp; omega⟩)
          have hi1 : (1 : Int) ≤ t.size := by omega
          have hq2 : -1000000000000000 - (s.size : Int) + t.size - 1 ≤ q - 1 := by omega
          go_wp2
          go_roundg (t.extract 1 t.size).size
          case measure => have := HGK.out; simp; omega
          case rel => exact ⟨_, q - 1, rfl, by simp; omega, by simp; omega, by omega, HT, rfl⟩
        | false =>
          have HT := Lib.hid (show tF s.data.toList = t.data.toList ∧ p - (s.size : Int) = q - (t.size : Int) from ⟨HT.out.1.trans (tF_stop h0 hx), HT.out.2⟩)
          go_wp2
          go_meet
          case rel => exact ⟨t, q, hts, HT, rfl⟩
  case rest =>
    obtain ⟨t, q, hts, HT, rfl⟩ := hcut
    go_upto_block 2 with fail
    go_cut [32] (fun _ wx => ∃ (u : ByteArray), u.size ≤ t.size ∧ Hid (tB t.data.toList = u.data.toList) ∧ wx = ((w.alloc (.cells #[.bool m, .string u, .int .i64 q] 40)).alloc (.cells #[.bool false, .string ⟨#[]⟩, .int .i64 0] 40)))
    case first =>
      go_wp2
      go_loopg [32] t.size (fun k _ wr => ∃ (u : ByteArray), k = u.size ∧ u.size ≤ t.size ∧ Hid (tB t.data.toList = tB u.data.toList) ∧ wr = ((w.alloc (.cells #[.bool m, .string u, .int .i64 q] 40)).alloc (.cells #[.bool false, .string ⟨#[]⟩, .int .i64 0] 40)))
      case atStart => exact ⟨t, rfl, Nat.le_refl _, Lib.hid rfl, rfl⟩
      case round =>
        obtain ⟨u, hgk, hus, HU, rfl⟩ := hrel
        have HGK := Lib.hid hgk; clear hgk
        rcases Nat.eq_zero_or_pos u.size with h0 | h0
        · have h1 := te_t h0
          have HU := Lib.hid (show tB t.data.toList = u.data.toList by
            have e : u.data.toList = [] := List.eq_nil_of_length_eq_zero (by simpa using h0)
            refine HU.out.trans ?_
            rw [e]; rfl)
          clear h0
          go_wp2
          go_meet
          case rel => exact ⟨u, hus, HU, rfl⟩
        · have h1 := te_f h0
          have hl1 : u.size - 1 < u.size := by omega
          have hi0 : (0 : Int) ≤ (u.size : Int) - 1 := by omega
          have hi1 : ((u.size : Int) - 1) < u.size := by omega
          have hi2 : ((u.size : Int) - 1) ≤ u.size := by omega
          have hin : ((u.size : Int) - 1).toNat = u.size - 1 := by omega
          cases hx : ((u[u.size - 1].toNat : Int) == 48) with
          | true =>
            have HU := Lib.hid (HU.out.trans (tB_step hl1 hx))
            go_wp2
            trace "AA"
            go_roundg (u.extract 0 (u.size - 1)).size
            case measure => have := HGK.out; simp; omega
            case rel => exact ⟨_, rfl, by simp; omega, HU, rfl⟩
          | false =>
            have HU := Lib.hid (HU.out.trans (tB_stop hl1 hx))
            go_wp2
            go_meet
            case rel => exact ⟨u, hus, HU, rfl⟩
    case rest =>
      obtain ⟨u, hus, HU, rfl⟩ := hcut
      have HV := Lib.hid (show trimV ⟨m, s.data.toList, p⟩ = if u.data.toList = [] then ⟨false, [], 0⟩ else ⟨m, u.data.toList, q⟩ by
        unfold trimV
        have h1 := HT.out
        simp only [h1.1, HU.out, len_toList]
        have e : p - ((s.size : Int) - (t.size : Int)) = q := by omega
        rw [e])
      rcases Nat.eq_zero_or_pos u.size with h0 | h0
      · have h1 := te_t h0
        have HV := Lib.hid (HV.out.trans (if_pos (List.eq_nil_of_length_eq_zero (by simpa using h0))))
        clear h0
        go_wp2
        refine bodyPost_ret (v := .agg #[.bool false, .string ⟨#[]⟩, .int .i64 0]) (by simp [results, Tryd.results24, go_sem]) rfl ?_
        exact ⟨by rw [HV.out]; rfl, Bel.of (by (repeat' (first | (with_reducible exact Below.refl _ _) | (with_reducible refine Below.trans ?_ (below_drewN _ _ _)) | (with_reducible refine Below.alloc ?_ ?_ _) | (with_reducible refine Below.setCell ?_ ?_ _) | (with_reducible refine Below.drew ?_) | go_size)))⟩
      · have h1 := te_f h0
        have HV := Lib.hid (HV.out.trans (if_neg (ne_nil h0)))
        go_wp2
        refine bodyPost_ret (v := .agg #[.bool m, .string u, .int .i64 q]) (by simp [results, Tryd.results24, go_sem]) rfl ?_
        exact ⟨by rw [HV.out, valV, ← bs_of rfl], Bel.of (by (repeat' (first | (with_reducible exact Below.refl _ _) | (with_reducible refine Below.trans ?_ (below_drewN _ _ _)) | (with_reducible refine Below.alloc ?_ ?_ _) | (with_reducible refine Below.setCell ?_ ?_ _) | (with_reducible refine Below.drew ?_) | go_size)))⟩

end Go.Proofs.YtdfamphnilelnaaDoor
