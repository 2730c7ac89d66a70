/- ref20: filter. -/
import Derived.Test.YthlcbjjeklkmfaaVq
import Derived.Test.YthlcbjjeklkmfaaVc
import Derived.Test.YthlcbjjeklkmfaaVj
import Derived.Deep.OwnRows
namespace Go.Proofs.Ythlcbjjeklkmfaa
open Go.RowKit

def GS (w wr : World) (cv : Array Value) (g : Nat) (hs : List Int) : Prop :=
  Blk wr w.heap.size 27 cv ∧ Blk wr g 3 (ints hs) ∧ Bel w.heap.size w wr ∧ w.heap.size < g
def RX (w wr : World) (cv : Array Value) (g : Nat) (hs : List Int) (bx : Nat) (xv : Array Value) : Prop :=
  Blk wr w.heap.size 27 cv ∧ Blk wr g 3 (ints hs) ∧ Blk wr bx 31 xv ∧ Bel w.heap.size w wr ∧ w.heap.size < g ∧ g < bx
section
variable {w wr w2 : World} {cv xv : Array Value} {g bx : Nat} {hs : List Int}
theorem GS.set (h : GS w wr cv g hs) (i : Nat) (v : Int) : GS w (wr.setCell ⟨g, i, none⟩ (.int .i64 v)) cv g (hs.set i v) := by
  obtain ⟨h1, h3, h5, h6⟩ := h
  exact ⟨h1.far (by simp; omega) _, by rw [← ints_set]; exact h3.set_ i _, h5.setCell (by simp; omega) _, h6⟩
theorem RX.set (h : RX w wr cv g hs bx xv) (i : Nat) (v : Int) : RX w (wr.setCell ⟨g, i, none⟩ (.int .i64 v)) cv g (hs.set i v) bx xv := by
  obtain ⟨h1, h3, h4, h5, h6, h7⟩ := h
  exact ⟨h1.far (by simp; omega) _, by rw [← ints_set]; exact h3.set_ i _, h4.far (by simp; omega) _, h5.setCell (by simp; omega) _, h6, h7⟩
theorem RX.bel (h : RX w wr cv g hs bx xv) (hb : Bel wr.heap.size wr w2) : RX w w2 cv g hs bx xv :=
  ⟨h.1.bel hb h.1.lt, h.2.1.bel hb h.2.1.lt, h.2.2.1.bel hb h.2.2.1.lt, h.2.2.2.1.next hb, h.2.2.2.2⟩
theorem RX.drew (h : RX w wr cv g hs bx xv) : RX w wr.drew cv g hs bx xv := h.bel (Bel.refl _ _).drew
theorem GS.x (h : GS w wr cv g hs) (xv : Array Value) : RX w (wr.alloc (.cells xv 31)) cv g hs wr.heap.size xv :=
  ⟨h.1.alloc _, h.2.1.alloc _, Blk.new _ _ _, h.2.2.1.alloc h.2.2.1.size _, h.2.2.2, h.2.1.lt⟩
theorem RX.gs (h : RX w wr cv g hs bx xv) : GS w wr cv g hs := ⟨h.1, h.2.1, h.2.2.2.1, h.2.2.2.2.1⟩
end
theorem ins7 {w : World} {g : Nat} {t : TypeId} {a b c d e f h : Value} (hb : Blk w g t #[a, b, c, d, e, f, h]) : g < w.heap.size ∧ w.cell? ⟨g, 0, none⟩ = some a ∧ w.cell? ⟨g, 1, none⟩ = some b ∧ w.cell? ⟨g, 2, none⟩ = some c ∧ w.cell? ⟨g, 3, none⟩ = some d ∧ w.cell? ⟨g, 6, none⟩ = some h :=
  ⟨hb.lt, hb.cell 0, hb.cell 1, hb.cell 2, hb.cell 3, hb.cell 6⟩
theorem ft_none (l : List InsD) (h : l.findIdx? (fun x => x.op == 5) = none) (j : Nat) (x : InsD) (hx : l[j]? = some x) : (x.op == 5) = false :=
  List.findIdx?_eq_none_iff.1 h x (List.mem_of_getElem? hx)
theorem ft_lt (l : List InsD) (n : Nat) (h : l.findIdx? (fun x => x.op == 5) = some n) (j : Nat) (hj : j < n) (x : InsD) (hx : l[j]? = some x) : (x.op == 5) = false := by
  obtain ⟨hn, _, hlt⟩ := List.findIdx?_eq_some_iff_getElem.1 h
  obtain ⟨hl, e⟩ := List.getElem?_eq_some_iff.1 hx
  have := hlt j hj
  rw [e] at this; simpa using this
theorem ft_at (l : List InsD) (n : Nat) (h : l.findIdx? (fun x => x.op == 5) = some n) : ∃ hn : n < l.length, (l[n].op == 5) = true := by
  obtain ⟨hn, hp, _⟩ := List.findIdx?_eq_some_iff_getElem.1 h
  exact ⟨hn, hp⟩
theorem zfill_step (n k : Nat) (h : k < n) : List.set ((0 : Int) :: (List.replicate k (-1 : Int) ++ List.replicate (n - k) 0)) (k + 1) (-1) = 0 :: (List.replicate (k + 1) (-1) ++ List.replicate (n - (k + 1)) 0) := by
  rw [List.set_cons_succ, List.set_append, if_neg (by simp), List.length_replicate, Nat.sub_self, show n - k = (n - (k + 1)) + 1 by omega, List.replicate_succ, List.set_cons_zero, List.replicate_succ', List.append_assoc]
  rfl
theorem zfill_get (n k : Nat) (h : k < n) : ∃ v : Int, ((0 : Int) :: (List.replicate k (-1 : Int) ++ List.replicate (n - k) 0))[k + 1]? = some v := ⟨_, List.getElem?_eq_getElem (by simp; omega)⟩

set_option maxRecDepth 100000 in
set_option maxHeartbeats 4000000 in
theorem rfilter_any (A1 A2 A3 A4 : Option Addr) (c1 c2 c3 c4 : Nat) (cd : CodeD) (p at_ : Int) (w : World) (h : CM w A1 A2 A3 A4 cd) (l1 : cd.ps.length ≤ 1000000000) (l2 : cd.gs.length ≤ 1000000000) (l3 : cd.ss.length ≤ 1000000000) (l4 : cd.is.length ≤ 1000000000) :
    Calls Try.prog 18 #[.agg #[.slice A1 cd.ps.length c1, .slice A2 cd.gs.length c2, .slice A3 cd.ss.length c3, .slice A4 cd.is.length c4], .int .i64 p, .int .i64 at_] w fun e w' => e = .returned (.bool (filterOK cd p at_)) ∧ Bel w.heap.size w w' := by
  have hsg := fun q w h => rsing_any A1 A2 A3 A4 c1 c2 c3 c4 cd q w h l1 l2 l3
  have HB0 := Lib.hid (show Bel w.heap.size w (w.alloc (.cells #[.slice A1 cd.ps.length c1, .slice A2 cd.gs.length c2, .slice A3 cd.ss.length c3, .slice A4 cd.is.length c4] 27)) from (Bel.refl _ _).alloc (Nat.le_refl _) _)
  have HC := Lib.hid h
  clear h
  by_cases h0 : 0 ≤ at_
  rotate_left
  · have HF := Lib.hid (show filterOK cd p at_ = false by unfold filterOK; rw [if_pos (by omega)])
    go_enter Try.func18, Try.ntmps18
    go_wp2
    go_ret
    exact ⟨ret_bool HF.out.symm, HB0.out⟩
  by_cases h1 : at_ < (cd.is.length : Int)
  rotate_left
  · have HF := Lib.hid (show filterOK cd p at_ = false by unfold filterOK; rw [if_neg (by omega), List.drop_eq_nil_of_le (by omega)]; rfl)
    go_enter Try.func18, Try.ntmps18
    go_wp2
    go_ret
    exact ⟨ret_bool HF.out.symm, HB0.out⟩
  obtain ⟨a, rfl⟩ : ∃ a : Nat, at_ = a := ⟨at_.toNat, by omega⟩
  have hal0 : a < cd.is.length := by omega
  obtain ⟨b4, o4, e4, hb4, hc4⟩ := HC.out.i.resolve_left (by intro e; rw [e] at hal0; simp at hal0)
  subst e4
  have HI := Lib.hid hc4
  clear hc4 h0
  cases hel : (cd.is.drop a).findIdx? (fun x => x.op == 5) with
  | none =>
    have HF := Lib.hid (show filterOK cd p (a : Int) = false by unfold filterOK; rw [if_neg (by omega), Int.toNat_natCast, hel])
    have HE := Lib.hid (show ∀ k x, a ≤ k → cd.is[k]? = some x → (x.op == 5) = false from fun k x hk hx => ft_none _ hel (k - a) x (by rw [List.getElem?_drop, show a + (k - a) = k by omega]; exact hx))
    clear hel
    go_enter Try.func18, Try.ntmps18
    go_wp2
    go_loop [7] (fun i => ∃ k : Nat, a ≤ k ∧ k ≤ cd.is.length ∧ i = .int .i64 k) (fun i => cd.is.length - (intOf i).toNat)
    case atStart => exact ⟨a, by omega, by omega, rfl⟩
    case round =>
      obtain ⟨k, hak, hkl, rfl⟩ := hrel
      by_cases hlt : k < cd.is.length
      · obtain ⟨x, hx⟩ : ∃ x, cd.is[k]? = some x := ⟨_, List.getElem?_eq_getElem hlt⟩
        obtain ⟨g0, _⟩ := HI.out k x hx
        have h5 := HE.out k x hak hx
        have hki : (k : Int) < cd.is.length := by omega
        have h5' : (x.op != 5) = true := by unfold bne; rw [h5]; rfl
        clear hx
        go_wp2
        go_round
        case rel => exact ⟨k + 1, by omega, by omega, by go_num⟩
        case measure => simp [intOf]; omega
      · obtain rfl : k = cd.is.length := by omega
        go_wp2
        go_ret
        exact ⟨ret_bool HF.out.symm, HB0.out⟩
  | some n =>
    have HQ := Lib.hid (filter_fin cd p a n hel)
    have HE := Lib.hid (show ∀ k x, a ≤ k → k < a + n → cd.is[k]? = some x → (x.op == 5) = false from fun k x hk hk2 hx => ft_lt _ n hel (k - a) (by omega) x (by rw [List.getElem?_drop, show a + (k - a) = k by omega]; exact hx))
    obtain ⟨hn, h5n⟩ := ft_at _ n hel
    rw [List.length_drop] at hn
    have HEN := Lib.hid (show ∀ x, cd.is[a + n]? = some x → (x.op == 5) = true from fun x hx => by
      obtain ⟨hl, e⟩ := List.getElem?_eq_some_iff.1 hx
      rw [← e]; rw [List.getElem_drop] at h5n; exact h5n)
    clear h5n hel
    obtain ⟨L, hL⟩ : ∃ L, a + n = L := ⟨_, rfl⟩
    have HL := Lib.hid hL
    have e1 : (L : Int) - (a : Int) = (n : Int) := by omega
    have hLl : L < cd.is.length := by omega
    have haL : a ≤ L := by omega
    rw [hL] at HE HEN
    have hmk := run_make_row' (P := Try.prog) 51 3 (.int .i64 0) 8 Try.underlying51 (by kernel_rfl) rfl .i64 .i64 (n + 1) (by omega) (by omega)
    have hmd : madeCells #[.int .i64 0] (n + 1) = ints (0 :: (List.replicate 0 (-1) ++ List.replicate (n - 0) 0)) := by
      unfold madeCells ints
      apply Array.ext
      · simp
      · intro i h1 h2
        simp [Nat.mod_one]
        cases i <;> simp
    rw [hmd] at hmk
    rw [show ((n + 1 : Nat) : Int) = (n : Int) + 1 by omega] at hmk
    clear hmd hL
    go_enter Try.func18, Try.ntmps18
    go_wp2
    go_loop [7] (fun i => ∃ k : Nat, a ≤ k ∧ k ≤ L ∧ i = .int .i64 k) (fun i => L - (intOf i).toNat)
    case atStart => exact ⟨a, by omega, by omega, rfl⟩
    case round =>
      obtain ⟨k, hak, hkl, rfl⟩ := hrel
      obtain ⟨x, hx⟩ : ∃ x, cd.is[k]? = some x := ⟨_, List.getElem?_eq_getElem (by omega)⟩
      obtain ⟨g0, _⟩ := HI.out k x hx
      have hki : (k : Int) < cd.is.length := by omega
      by_cases hlt : k < L
      · have h5 := HE.out k x hak hlt hx
        have h5' : (x.op != 5) = true := by unfold bne; rw [h5]; rfl
        clear hx
        go_wp2
        go_round
        case rel => exact ⟨k + 1, by omega, by omega, by go_num⟩
        case measure => simp [intOf]; omega
      · obtain rfl : k = L := by omega
        have h5 := HEN.out x hx
        have h5' : (x.op != 5) = false := by unfold bne; rw [h5]; rfl
        have hne : ((k : Int) == (cd.is.length : Int)) = false := beq_eq_false_iff_ne.2 (by omega)
        clear hx
        have HG0 := Lib.hid (show GS w ((w.alloc (.cells #[.slice A1 cd.ps.length c1, .slice A2 cd.gs.length c2, .slice A3 cd.ss.length c3, .slice (some ⟨b4, o4, none⟩) cd.is.length c4] 27)).alloc (.cells (ints (0 :: (List.replicate 0 (-1) ++ List.replicate (n - 0) 0))) 3)) #[.slice A1 cd.ps.length c1, .slice A2 cd.gs.length c2, .slice A3 cd.ss.length c3, .slice (some ⟨b4, o4, none⟩) cd.is.length c4] (w.heap.size + 1) (0 :: (List.replicate 0 (-1) ++ List.replicate (n - 0) 0)) from ⟨(Blk.new _ _ _).alloc _, Blk.new1 _ _ _ _, HB0.out.alloc (by simp) _, by omega⟩)
        go_wp2
        clear g0 h5 h5' hne hlt hak hkl
        obtain ⟨g, hg⟩ : ∃ g, w.heap.size + 1 = g := ⟨_, rfl⟩
        rw [hg] at HG0 ⊢
        clear hg
        go_loopw [9] (fun i wr => ∃ j : Nat, j ≤ n ∧ i = .int .i64 ((j + 1 : Nat) : Int) ∧ Hid (GS w wr #[.slice A1 cd.ps.length c1, .slice A2 cd.gs.length c2, .slice A3 cd.ss.length c3, .slice (some ⟨b4, o4, none⟩) cd.is.length c4] g (0 :: (List.replicate j (-1) ++ List.replicate (n - j) 0)))) (fun i _ => n + 1 - (intOf i).toNat)
        case atStart => exact ⟨0, by omega, rfl, HG0⟩
        case round =>
          clear HG0
          obtain ⟨j, hj, rfl, HG⟩ := hrel
          obtain ⟨hb1, hb3, hbe, _⟩ := HG.out
          have zg := hb3.lt
          by_cases hjn : j < n
          · obtain ⟨v, hv⟩ := zfill_get n j hjn
            have hcv : wr.cell? ⟨g, j + 1, none⟩ = some (.int .i64 v) := (hb3.cell (j + 1)).trans (ints_get _ (j + 1) v hv)
            have hcz := hb3.frozen (j + 1)
            have hG2 := HG.out.set (j + 1) (-1)
            rw [zfill_step n j hjn] at hG2
            have HG2 := Lib.hid hG2
            clear hG2 hb1 hb3 hbe hv
            go_wp2
            go_roundw
            case rel => exact ⟨j + 1, by omega, by go_num, HG2⟩
            case measure => simp [intOf]; omega
          · obtain rfl : j = n := by omega
            have HG1 := Lib.hid (show GS w wr #[.slice A1 cd.ps.length c1, .slice A2 cd.gs.length c2, .slice A3 cd.ss.length c3, .slice (some ⟨b4, o4, none⟩) cd.is.length c4] g (0 :: List.replicate j (-1)) from by have := HG.out; simpa using this)
            clear hb1 hb3 hbe HG zg
            go_wp2
            go_loopw [10] (fun i wr => ∃ (k K : Nat) (hs : List Int), k ≤ j ∧ Hid (a + k = K) ∧ i = .int .i64 (K : Int) ∧ hs.length = j + 1 ∧ Hid (HB k hs) ∧ Hid (filterOK cd p (a : Int) = finL j (runL cd p a (a + j) ((cd.is.drop (a + k)).take (j - k)) (a + k) hs)) ∧ Hid (GS w wr #[.slice A1 cd.ps.length c1, .slice A2 cd.gs.length c2, .slice A3 cd.ss.length c3, .slice (some ⟨b4, o4, none⟩) cd.is.length c4] g hs)) (fun i _ => a + j - (intOf i).toNat)
            case atStart => exact ⟨0, a, _, by omega, Lib.hid rfl, rfl, by simp, Lib.hid (HB_start j), HQ, HG1⟩
            case round =>
              clear HG1 HQ
              obtain ⟨kk, K, hs, hkn, HK, rfl, hln, HB, HQ, HG⟩ := hrel
              have hKL : K ≤ k := by have := HK.out; have := HL.out; omega
              have HN := Lib.hid hln
              obtain ⟨v, hv⟩ : ∃ v, hs[kk]? = some v := ⟨_, List.getElem?_eq_getElem (by omega)⟩
              clear hln
              have hvb := HB.out.get hv
              have hka : (K : Int) - (a : Int) = (kk : Int) := by have := HK.out; omega
              obtain ⟨hb1, hb3, hbe, hSg⟩ := HG.out
              obtain ⟨xsz, ⟨x0, x1, x2, x3⟩, _⟩ := hb1.four
              have zg := hb3.lt
              have fg := hb3.frozen
              have pg : wr.cell? ⟨g, kk, none⟩ = some (.int .i64 v) := (hb3.cell kk).trans (ints_get _ kk v hv)
              by_cases hlt : K < k
              · have hkl : (K : Int) < (k : Int) := by omega
                have hkn2 : kk < j := by have := HK.out; have := HL.out; omega
                obtain ⟨x, hx⟩ : ∃ x, cd.is[K]? = some x := ⟨_, List.getElem?_eq_getElem (by omega)⟩
                have HST := Lib.hid (HQ.out.trans (run_step cd p a j kk hs x v hkn2 (by rw [HK.out]; exact hx) hv))
                rw [HK.out, HL.out] at HST
                obtain ⟨g0, g1, g2, g3, g4, g5, g6⟩ := HI.out K x hx
                have h5 := HE.out K x (by have := HK.out; omega) hlt hx
                have hKi : (K : Int) < cd.is.length := by omega
                obtain ⟨op, xp, sg, kd, xn, xs, tt⟩ := x
                simp only at g0 g1 g2 g3 g4 g5 g6 h5
                have hne5 : op ≠ 5 := fun e => by rw [e] at h5; cases h5
                have HR0 := Lib.hid (show RX w (wr.alloc (.cells #[.int .i64 op, .int .i64 xp, .int .i64 sg, .int .i64 kd, .int .i64 xn, .string xs, .int .i64 tt] 31)) #[.slice A1 cd.ps.length c1, .slice A2 cd.gs.length c2, .slice A3 cd.ss.length c3, .slice (some ⟨b4, o4, none⟩) cd.is.length c4] g hs wr.heap.size #[.int .i64 op, .int .i64 xp, .int .i64 sg, .int .i64 kd, .int .i64 xn, .string xs, .int .i64 tt] from HG.out.x _)
                obtain ⟨bx, hbx0⟩ : ∃ bx, wr.heap.size = bx := ⟨_, rfl⟩
                obtain ⟨wx, hwx⟩ : ∃ wx, wr.alloc (.cells #[.int .i64 op, .int .i64 xp, .int .i64 sg, .int .i64 kd, .int .i64 xn, .string xs, .int .i64 tt] 31) = wx := ⟨_, rfl⟩
                have hcx : ∀ b o, b < w.heap.size → wr.cell? ⟨b, o, none⟩ = w.cell? ⟨b, o, none⟩ := fun b o h => hbe.cell (p := ⟨b, o, none⟩) h
                clear hx HQ h5

                go_upto_region 17 with fail
                rw [hwx, hbx0] at HR0
                clear hwx hbx0 hcx g0 g1 g2 g3 g4 g5 g6 xsz x0 x1 x2 x3 zg fg pg hb1 hb3 hbe HG
                obtain ⟨hh1, hh3, hhx, hhe, hhg, hhb⟩ := HR0.out; obtain ⟨xsz, ⟨x0, x1, x2, x3⟩, _⟩ := hh1.four; have zg := hh3.lt; have fg := hh3.frozen; obtain ⟨zx, i0, i1, i2, i3, i6⟩ := ins7 hhx; have HW := Lib.hid hhe; clear hh1 hhx hhe hh3
                have pg : wx.cell? ⟨g, kk, none⟩ = some (.int .i64 v) := (HR0.out.2.1.cell kk).trans (ints_get _ kk v hv)
                by_cases ha : op < 0
                · have HF := Lib.hid (show filterOK cd p (a : Int) = false by rw [HST.out]; rw [show insI cd ⟨op, xp, sg, kd, xn, xs, tt⟩ p (K : Int) (k : Int) v = none by unfold insI; dsimp only; rw [if_pos (.inl (by omega))]])
                  go_wp2
                  go_ret
                  exact ⟨ret_bool HF.out.symm, HW.out⟩
                have dha : decide (op < 0) = false := decide_eq_false ha
                by_cases hb : 5 < op
                · have HF := Lib.hid (show filterOK cd p (a : Int) = false by rw [HST.out]; rw [show insI cd ⟨op, xp, sg, kd, xn, xs, tt⟩ p (K : Int) (k : Int) v = none by unfold insI; dsimp only; rw [if_pos (.inr (by omega))]])
                  go_wp2
                  go_ret
                  exact ⟨ret_bool HF.out.symm, HW.out⟩
                have dhb : decide (5 < op) = false := decide_eq_false hb
                -- B
                go_upto_region 21 with fail
                obtain ⟨b1, hb1⟩ : ∃ b, (decide (op = 0) || decide (op = 1)) = b := ⟨_, rfl⟩
                have HB1 := Lib.hid hb1
                clear hb1
                go_cut [92] (fun t wy => t = .bool b1 ∧ Hid (RX w wy #[.slice A1 cd.ps.length c1, .slice A2 cd.gs.length c2, .slice A3 cd.ss.length c3, .slice (some ⟨b4, o4, none⟩) cd.is.length c4] g hs bx #[.int .i64 op, .int .i64 xp, .int .i64 sg, .int .i64 kd, .int .i64 xn, .string xs, .int .i64 tt]))
                case first => as_aux_lemma =>
                  by_cases q0 : op = 0
                  · subst q0
                    go_wp2
                    go_meet
                    case rel => exact ⟨by rw [← HB1.out]; rfl, HR0⟩
                  · have q0' : (op == 0) = false := beq_eq_false_iff_ne.2 q0
                    by_cases q1 : op = 1
                    · subst q1
                      go_wp2
                      go_meet
                      case rel => exact ⟨by rw [← HB1.out]; rfl, HR0⟩
                    · have q1' : (op == 1) = false := beq_eq_false_iff_ne.2 q1
                      go_wp2
                      go_meet
                      case rel => exact ⟨by rw [← HB1.out, decide_eq_false q0, decide_eq_false q1]; rfl, HR0⟩
                case rest =>
                  obtain ⟨rfl, HR1⟩ := hcut
                  clear xsz x0 x1 x2 x3 zg fg zx i0 i1 i2 i3 i6 HW hhg hhb HR0
                  obtain ⟨hh1, hh3, hhx, hhe, hhg, hhb⟩ := HR1.out; obtain ⟨xsz, ⟨x0, x1, x2, x3⟩, _⟩ := hh1.four; have zg := hh3.lt; have fg := hh3.frozen; obtain ⟨zx, i0, i1, i2, i3, i6⟩ := ins7 hhx; have HW := Lib.hid hhe; clear hh1 hhx hhe hh3
                  go_upto_if 92 with fail
                  go_cut [13] (fun nx wy => ∃ nv, nx = .int .i64 nv ∧ Hid (nv = if op = 0 ∨ op = 1 then v + 1 else v) ∧ Hid (op = 0 ∨ op = 1 → p < xp ∧ xp < (cd.ps.length : Int)) ∧ Hid (RX w wy #[.slice A1 cd.ps.length c1, .slice A2 cd.gs.length c2, .slice A3 cd.ss.length c3, .slice (some ⟨b4, o4, none⟩) cd.is.length c4] g hs bx #[.int .i64 op, .int .i64 xp, .int .i64 sg, .int .i64 kd, .int .i64 xn, .string xs, .int .i64 tt]))
                  case first => as_aux_lemma =>
                    cases b1 with
                    | false =>
                      have hno : ¬ (op = 0 ∨ op = 1) := by have := HB1.out; simpa using this
                      go_wp2
                      go_meet
                      case rel => exact ⟨_, rfl, Lib.hid (by rw [if_neg hno]), Lib.hid (fun h => absurd h hno), HR1⟩
                    | true =>
                      have hyes : op = 0 ∨ op = 1 := by have := HB1.out; simpa using this
                      by_cases q1 : xp ≤ p
                      · have HF := Lib.hid (show filterOK cd p (a : Int) = false by rw [HST.out]; rw [show insI cd ⟨op, xp, sg, kd, xn, xs, tt⟩ p (K : Int) (k : Int) v = none by unfold insI; dsimp only; rw [if_neg (by omega), if_pos hyes, if_neg (fun hc => by omega)]])
                        go_wp2
                        go_ret
                        exact ⟨ret_bool HF.out.symm, HW.out⟩
                      · by_cases q2 : (cd.ps.length : Int) ≤ xp
                        · have HF := Lib.hid (show filterOK cd p (a : Int) = false by rw [HST.out]; rw [show insI cd ⟨op, xp, sg, kd, xn, xs, tt⟩ p (K : Int) (k : Int) v = none by unfold insI; dsimp only; rw [if_neg (by omega), if_pos hyes, if_neg (fun hc => by omega)]])
                          go_wp2
                          go_ret
                          exact ⟨ret_bool HF.out.symm, HW.out⟩
                        · have hd1 : decide (xp ≤ p) = false := decide_eq_false q1
                          have hd2 : decide ((cd.ps.length : Int) ≤ xp) = false := decide_eq_false q2
                          go_wp2
                          go_meet
                          case rel => exact ⟨_, rfl, Lib.hid (by rw [if_pos hyes]), Lib.hid (fun _ => ⟨by omega, by omega⟩), HR1⟩
                  case rest =>
                    obtain ⟨nv, rfl, HNV, HPC, HR2⟩ := hcut
                    clear xsz x0 x1 x2 x3 zg fg zx i0 i1 i2 i3 i6 HW hhg hhb HR1 HB1
                    obtain ⟨hh1, hh3, hhx, hhe, hhg, hhb⟩ := HR2.out; obtain ⟨xsz, ⟨x0, x1, x2, x3⟩, _⟩ := hh1.four; have zg := hh3.lt; have fg := hh3.frozen; obtain ⟨zx, i0, i1, i2, i3, i6⟩ := ins7 hhx; have HW := Lib.hid hhe; clear hh1 hhx hhe hh3
                    -- C
                    go_upto_region 25 with fail
                    obtain ⟨sb, hsb⟩ : ∃ sb, singleOK cd xp = sb := ⟨_, rfl⟩
                    have hsg1 := hsg xp
                    rw [hsb] at hsg1
                    have HSB := Lib.hid hsb
                    have HCx := Lib.hid (HC.out.bel HW.out)
                    obtain ⟨b2, hb2⟩ : ∃ b, (decide (op = 1) && (decide (sg < 0) || (decide (5 < sg) || (decide (kd < 0) || (decide (3 < kd) || !sb))))) = b := ⟨_, rfl⟩
                    have HB2 := Lib.hid hb2
                    clear hb2 hsb
                    go_cut [136] (fun t wy => t = .bool b2 ∧ Hid (RX w wy #[.slice A1 cd.ps.length c1, .slice A2 cd.gs.length c2, .slice A3 cd.ss.length c3, .slice (some ⟨b4, o4, none⟩) cd.is.length c4] g hs bx #[.int .i64 op, .int .i64 xp, .int .i64 sg, .int .i64 kd, .int .i64 xn, .string xs, .int .i64 tt]))
                    case first => as_aux_lemma =>
                      by_cases q1 : op = 1
                      · subst q1
                        by_cases s1 : sg < 0
                        · go_wp2
                          go_meet
                          case rel => exact ⟨by rw [← HB2.out, decide_eq_true s1]; rfl, HR2⟩
                        · have d1 : decide (sg < 0) = false := decide_eq_false s1
                          by_cases s2 : 5 < sg
                          · go_wp2
                            go_meet
                            case rel => exact ⟨by rw [← HB2.out, d1, decide_eq_true s2]; rfl, HR2⟩
                          · have d2 : decide (5 < sg) = false := decide_eq_false s2
                            by_cases s3 : kd < 0
                            · go_wp2
                              go_meet
                              case rel => exact ⟨by rw [← HB2.out, d1, d2, decide_eq_true s3]; rfl, HR2⟩
                            · have d3 : decide (kd < 0) = false := decide_eq_false s3
                              by_cases s4 : 3 < kd
                              · go_wp2
                                go_meet
                                case rel => exact ⟨by rw [← HB2.out, d1, d2, d3, decide_eq_true s4]; rfl, HR2⟩
                              · have d4 : decide (3 < kd) = false := decide_eq_false s4
                                go_wp2_with (go_at_call 10; refine (hsg1 _ HCx.out).mono ?_; rintro e w4 ⟨rfl, hbb⟩; have HR3 := Lib.hid (HR2.out.bel hbb); clear hbb)
                                go_meet
                                case rel => exact ⟨by rw [← HB2.out, d1, d2, d3, d4]; simp, HR3⟩
                      · have q1' : (op == 1) = false := beq_eq_false_iff_ne.2 q1
                        go_wp2
                        go_meet
                        case rel => exact ⟨by rw [← HB2.out, decide_eq_false q1]; rfl, HR2⟩
                    case rest =>
                      obtain ⟨rfl, HR3⟩ := hcut
                      clear xsz x0 x1 x2 x3 zg fg zx i0 i1 i2 i3 i6 HW hhg hhb HR2 HCx hsg1
                      obtain ⟨hh1, hh3, hhx, hhe, hhg, hhb⟩ := HR3.out; obtain ⟨xsz, ⟨x0, x1, x2, x3⟩, _⟩ := hh1.four; have zg := hh3.lt; have fg := hh3.frozen; obtain ⟨zx, i0, i1, i2, i3, i6⟩ := ins7 hhx; have HW := Lib.hid hhe; clear hh1 hhx hhe hh3
                      cases b2 with
                      | true =>
                        have hno : op = 1 ∧ ¬ (0 ≤ sg ∧ sg ≤ 5 ∧ 0 ≤ kd ∧ kd ≤ 3 ∧ singleOK cd xp = true) := by
                          have h := HB2.out
                          simp only [Bool.and_eq_true, Bool.or_eq_true, decide_eq_true_eq, Bool.not_eq_true'] at h
                          refine ⟨h.1, fun hc => ?_⟩
                          rw [HSB.out] at hc
                          rcases h.2 with h | h | h | h | h
                          · omega
                          · omega
                          · omega
                          · omega
                          · rw [h] at hc; exact absurd hc.2.2.2.2 (by simp)
                        have HF := Lib.hid (show filterOK cd p (a : Int) = false by rw [HST.out]; rw [show insI cd ⟨op, xp, sg, kd, xn, xs, tt⟩ p (K : Int) (k : Int) v = none by unfold insI; dsimp only; rw [if_neg (by omega), if_pos (.inr hno.1), if_neg (fun hc => hno.2 (hc.2.2 hno.1))]])
                        go_wp2
                        go_ret
                        exact ⟨ret_bool HF.out.symm, HW.out⟩
                      | false =>
                        have HSC := Lib.hid (show op = 1 → 0 ≤ sg ∧ sg ≤ 5 ∧ 0 ≤ kd ∧ kd ≤ 3 ∧ singleOK cd xp = true from fun hop => by
                          have h := HB2.out
                          rw [HSB.out]
                          simp only [hop, decide_true, Bool.true_and, Bool.or_eq_false_iff, decide_eq_false_iff_not, Bool.not_eq_false'] at h
                          obtain ⟨h1, h2, h3, h4, h5⟩ := h
                          exact ⟨by omega, by omega, by omega, by omega, h5⟩)
                        clear HB2 HSB
                        -- D
                        go_upto_region 27 with fail
                        obtain ⟨b3, hb3⟩ : ∃ b, (decide (2 ≤ op) && decide (v < 1)) = b := ⟨_, rfl⟩
                        have HB3 := Lib.hid hb3
                        clear hb3
                        go_cut [143] (fun t wy => t = .bool b3 ∧ Hid (RX w wy #[.slice A1 cd.ps.length c1, .slice A2 cd.gs.length c2, .slice A3 cd.ss.length c3, .slice (some ⟨b4, o4, none⟩) cd.is.length c4] g hs bx #[.int .i64 op, .int .i64 xp, .int .i64 sg, .int .i64 kd, .int .i64 xn, .string xs, .int .i64 tt]))
                        case first => as_aux_lemma =>
                          by_cases q2 : 2 ≤ op
                          · have d2 : decide (2 ≤ op) = true := decide_eq_true q2
                            go_wp2
                            go_meet
                            case rel => exact ⟨by rw [← HB3.out, d2]; rfl, HR3⟩
                          · have d2 : decide (2 ≤ op) = false := decide_eq_false q2
                            go_wp2
                            go_meet
                            case rel => exact ⟨by rw [← HB3.out, d2]; rfl, HR3⟩
                        case rest =>
                          obtain ⟨rfl, HR4⟩ := hcut
                          clear xsz x0 x1 x2 x3 zg fg zx i0 i1 i2 i3 i6 HW hhg hhb HR3
                          obtain ⟨hh1, hh3, hhx, hhe, hhg, hhb⟩ := HR4.out; obtain ⟨xsz, ⟨x0, x1, x2, x3⟩, _⟩ := hh1.four; have zg := hh3.lt; have fg := hh3.frozen; obtain ⟨zx, i0, i1, i2, i3, i6⟩ := ins7 hhx; have HW := Lib.hid hhe; clear hh1 hhx hhe hh3
                          cases b3 with
                          | true =>
                            have hno : 2 ≤ op ∧ v < 1 := by have h := HB3.out; simpa using h
                            have HF := Lib.hid (show filterOK cd p (a : Int) = false by rw [HST.out]; rw [show insI cd ⟨op, xp, sg, kd, xn, xs, tt⟩ p (K : Int) (k : Int) v = none by unfold insI; dsimp only; rw [if_neg (by omega), if_neg (by omega)]; exact (Classical.em (op = 3 ∨ op = 4)).elim (fun h34 => by rw [if_pos h34, if_neg (by omega)]) (fun h34 => by rw [if_neg h34, if_pos (by omega), if_neg (by omega)])])
                            go_wp2
                            go_ret
                            exact ⟨ret_bool HF.out.symm, HW.out⟩
                          | false =>
                            have HVC := Lib.hid (show 2 ≤ op → 1 ≤ v from fun h2 => by have h := HB3.out; simp [h2] at h; omega)
                            clear HB3
                            -- E
                            go_upto_region 29 with fail
                            obtain ⟨b4', hb4'⟩ : ∃ b, (decide (op = 3) || decide (op = 4)) = b := ⟨_, rfl⟩
                            have HB4 := Lib.hid hb4'
                            clear hb4'
                            go_cut [151] (fun t wy => t = .bool b4' ∧ Hid (RX w wy #[.slice A1 cd.ps.length c1, .slice A2 cd.gs.length c2, .slice A3 cd.ss.length c3, .slice (some ⟨b4, o4, none⟩) cd.is.length c4] g hs bx #[.int .i64 op, .int .i64 xp, .int .i64 sg, .int .i64 kd, .int .i64 xn, .string xs, .int .i64 tt]))
                            case first => as_aux_lemma =>
                              by_cases q0 : op = 3
                              · subst q0
                                go_wp2
                                go_meet
                                case rel => exact ⟨by rw [← HB4.out]; rfl, HR4⟩
                              · have q0' : (op == 3) = false := beq_eq_false_iff_ne.2 q0
                                by_cases q1 : op = 4
                                · subst q1
                                  go_wp2
                                  go_meet
                                  case rel => exact ⟨by rw [← HB4.out]; rfl, HR4⟩
                                · have q1' : (op == 4) = false := beq_eq_false_iff_ne.2 q1
                                  go_wp2
                                  go_meet
                                  case rel => exact ⟨by rw [← HB4.out, decide_eq_false q0, decide_eq_false q1]; rfl, HR4⟩
                            case rest =>
                              obtain ⟨rfl, HR5⟩ := hcut
                              clear xsz x0 x1 x2 x3 zg fg zx i0 i1 i2 i3 i6 HW hhg hhb HR4
                              obtain ⟨hh1, hh3, hhx, hhe, hhg, hhb⟩ := HR5.out; obtain ⟨xsz, ⟨x0, x1, x2, x3⟩, _⟩ := hh1.four; have zg := hh3.lt; have fg := hh3.frozen; obtain ⟨zx, i0, i1, i2, i3, i6⟩ := ins7 hhx; have HW := Lib.hid hhe; clear hh1 hhx hhe hh3
                              go_upto_if 151 with fail
                              go_cut [13] (fun nx wy => ∃ (d : Int) (h2 : List Int), nx = .int .i64 (v + d) ∧ Hid (insI cd ⟨op, xp, sg, kd, xn, xs, tt⟩ p (K : Int) (k : Int) v = some d) ∧ Hid ((if d < 0 then meetL hs (tt.toNat - a) v else some hs) = some h2) ∧ Hid (RX w wy #[.slice A1 cd.ps.length c1, .slice A2 cd.gs.length c2, .slice A3 cd.ss.length c3, .slice (some ⟨b4, o4, none⟩) cd.is.length c4] g h2 bx #[.int .i64 op, .int .i64 xp, .int .i64 sg, .int .i64 kd, .int .i64 xn, .string xs, .int .i64 tt]))
                              case first => as_aux_lemma =>
                                cases b4' with
                                | false =>
                                  have hno : ¬ (op = 3 ∨ op = 4) := by have := HB4.out; simpa using this
                                  by_cases h01 : op = 0 ∨ op = 1
                                  · have hi := HNV.out
                                    rw [if_pos h01] at hi
                                    subst hi
                                    have HIN := Lib.hid (show insI cd ⟨op, xp, sg, kd, xn, xs, tt⟩ p (K : Int) (k : Int) v = some 1 by unfold insI; dsimp only; rw [if_neg (by omega), if_pos h01, if_pos ⟨(HPC.out h01).1, (HPC.out h01).2, HSC.out⟩])
                                    clear h01 hno
                                    go_wp2
                                    go_meet
                                    case rel => exact ⟨1, hs, rfl, HIN, Lib.hid rfl, HR5⟩
                                  · have hi := HNV.out
                                    rw [if_neg h01] at hi
                                    subst hi
                                    have hop2 : op = 2 := by omega
                                    have HIN := Lib.hid (show insI cd ⟨op, xp, sg, kd, xn, xs, tt⟩ p (K : Int) (k : Int) nv = some 0 by unfold insI; dsimp only; rw [if_neg (by omega), if_neg h01, if_neg hno, if_pos hop2, if_pos (HVC.out (by omega))])
                                    clear h01 hno hop2
                                    go_wp2
                                    go_meet
                                    case rel => exact ⟨0, hs, by simp, HIN, Lib.hid rfl, HR5⟩
                                | true =>
                                  have hyes : op = 3 ∨ op = 4 := by have := HB4.out; simpa using this
                                  by_cases t1 : tt ≤ (K : Int)
                                  · have HF := Lib.hid (show filterOK cd p (a : Int) = false by rw [HST.out]; rw [show insI cd ⟨op, xp, sg, kd, xn, xs, tt⟩ p (K : Int) (k : Int) v = none by unfold insI; dsimp only; rw [if_neg (by omega), if_neg (by omega), if_pos hyes, if_neg (by omega)]])
                                    go_wp2
                                    go_ret
                                    exact ⟨ret_bool HF.out.symm, HW.out⟩
                                  · have dt1 : decide (tt ≤ (K : Int)) = false := decide_eq_false t1
                                    by_cases t2 : (k : Int) < tt
                                    · have HF := Lib.hid (show filterOK cd p (a : Int) = false by rw [HST.out]; rw [show insI cd ⟨op, xp, sg, kd, xn, xs, tt⟩ p (K : Int) (k : Int) v = none by unfold insI; dsimp only; rw [if_neg (by omega), if_neg (by omega), if_pos hyes, if_neg (by omega)]])
                                      go_wp2
                                      go_ret
                                      exact ⟨ret_bool HF.out.symm, HW.out⟩
                                    · have dt2 : decide ((k : Int) < tt) = false := decide_eq_false t2
                                      have HIN := Lib.hid (show insI cd ⟨op, xp, sg, kd, xn, xs, tt⟩ p (K : Int) (k : Int) v = some (-1) by unfold insI; dsimp only; rw [if_neg (by omega), if_neg (by omega), if_pos hyes, if_pos ⟨HVC.out (by omega), by omega, by omega⟩])
                                      obtain ⟨tn, rfl⟩ : ∃ tn : Nat, tt = tn := ⟨tt.toNat, by omega⟩
                                      have hit : (tn : Int) - (a : Int) = ((tn - a : Nat) : Int) := by have := HK.out; omega
                                      obtain ⟨i, hi⟩ : ∃ i, tn - a = i := ⟨_, rfl⟩
                                      rw [hi] at hit
                                      have hij : i < j + 1 := by have := HL.out; omega
                                      obtain ⟨u, hu⟩ : ∃ u, hs[i]? = some u := ⟨_, List.getElem?_eq_getElem (by rw [HN.out]; exact hij)⟩
                                      have hub := HB.out.get hu
                                      have HM := Lib.hid (show (if (-1 : Int) < 0 then meetL hs ((tn : Int).toNat - a) v else some hs) = if u = -1 ∨ u = v then some (hs.set i v) else none by
                                        rw [if_pos (by omega), Int.toNat_natCast, hi]; unfold meetL; rw [List.getD_eq_getElem?_getD, hu]; rfl)
                                      have pu : wc.cell? ⟨g, i, none⟩ = some (.int .i64 u) := (HR5.out.2.1.cell i).trans (ints_get _ i u hu)
                                      have fgi := fg i
                                      clear hi hu fg hyes
                                      by_cases u1 : u = -1
                                      · subst u1
                                        have HM1 := Lib.hid (HM.out.trans (if_pos (.inl rfl)))
                                        have HR6 := Lib.hid (HR5.out.set i v)
                                        go_wp2
                                        go_meet
                                        case rel => exact ⟨-1, _, by first | rfl | (congr 1), HIN, HM1, HR6⟩
                                      · have hu0 : 0 ≤ u := by omega
                                        by_cases u2 : u = v
                                        · subst u2
                                          have HM1 := Lib.hid (HM.out.trans (if_pos (.inr rfl)))
                                          have HR6 := Lib.hid (HR5.out.set i u)
                                          go_wp2
                                          go_meet
                                          case rel => exact ⟨-1, _, by first | rfl | (congr 1), HIN, HM1, HR6⟩
                                        · have hu2 : (u == v) = false := beq_eq_false_iff_ne.2 u2
                                          have hu3 : (u != v) = true := by unfold bne; rw [hu2]; rfl
                                          have HF := Lib.hid (show filterOK cd p (a : Int) = false by rw [HST.out, HIN.out]; simp only; rw [HM.out, if_neg (by omega)]; rfl)
                                          go_wp2
                                          go_ret
                                          exact ⟨ret_bool HF.out.symm, HW.out⟩
                              case rest =>
                                obtain ⟨d, h2, rfl, HIN, HM, HR6⟩ := hcut
                                clear HVC HSC HPC HNV HB4
                                clear xsz x0 x1 x2 x3 zg fg zx i0 i1 i2 i3 i6 HW hhg hhb HR5
                                obtain ⟨hh1, hh3, hhx, hhe, hhg, hhb⟩ := HR6.out; obtain ⟨xsz, ⟨x0, x1, x2, x3⟩, _⟩ := hh1.four; have zg := hh3.lt; have fg := hh3.frozen; obtain ⟨zx, i0, i1, i2, i3, i6⟩ := ins7 hhx; have HW := Lib.hid hhe; clear hh1 hhx hhe hh3
                                have hd := ins_bd cd ⟨op, xp, sg, kd, xn, xs, tt⟩ p (K : Int) (k : Int) v d HIN.out
                                have hd1 : -1 ≤ d ∧ d ≤ 1 ∧ (d = -1 → 1 ≤ v) := by rcases hd with h | h | h <;> omega
                                have HF1 := Lib.hid (show filterOK cd p (a : Int) = finM cd p a j kk v d (some h2) by rw [HST.out, HIN.out]; simp only; rw [HM.out])
                                have HLN := Lib.hid (show h2.length = j + 1 ∧ Go.Proofs.Ythlcbjjeklkmfaa.HB (kk + 1) h2 by
                                  have := HM.out
                                  split at this
                                  · have e := meetL_some this; rw [e]; exact ⟨by rw [List.length_set]; exact HN.out, (HB.out.mono).set _ _ (by omega) (by omega)⟩
                                  · injection this with e; rw [← e]; exact ⟨HN.out, HB.out.mono⟩)
                                clear hd HIN HM HST
                                obtain ⟨nd, hnd⟩ : ∃ nd, v + d = nd := ⟨_, rfl⟩
                                have hndb : -1 ≤ nd ∧ nd ≤ (kk : Int) + 1 := by omega
                                have HND := Lib.hid hnd
                                rw [hnd]
                                clear hnd hd1
                                obtain ⟨u, hu⟩ : ∃ u, h2[kk + 1]? = some u := ⟨_, List.getElem?_eq_getElem (by rw [HLN.out.1]; omega)⟩
                                have hub := HLN.out.2.get hu
                                have HM2 := Lib.hid (show meetL h2 (kk + 1) nd = if u = -1 ∨ u = nd then some (h2.set (kk + 1) nd) else none by unfold meetL; rw [List.getD_eq_getElem?_getD, hu]; rfl)
                                have hk1 : (K : Int) + 1 - (a : Int) = ((kk + 1 : Nat) : Int) := by omega
                                have HKS := Lib.hid (show a + (kk + 1) = K + 1 by have := HK.out; omega)
                                have pu : wc.cell? ⟨g, kk + 1, none⟩ = some (.int .i64 u) := (HR6.out.2.1.cell (kk + 1)).trans (ints_get _ (kk + 1) u hu)
                                have fgi := fg (kk + 1)
                                have HF2 := Lib.hid (show filterOK cd p (a : Int) = match meetL h2 (kk + 1) nd with | none => false | some h3 => finL j (runL cd p a (a + j) ((cd.is.drop (a + (kk + 1))).take (j - (kk + 1))) (a + (kk + 1)) h3) by rw [HF1.out]; unfold finM; simp only; rw [HND.out]; rfl)
                                clear fg hu HF1 HND
                                by_cases u1 : u = -1
                                · subst u1
                                  have HF := Lib.hid (show filterOK cd p (a : Int) = finL j (runL cd p a (a + j) ((cd.is.drop (a + (kk + 1))).take (j - (kk + 1))) (a + (kk + 1)) (h2.set (kk + 1) nd)) by rw [HF2.out, HM2.out, if_pos (.inl rfl)])
                                  have HR7 := Lib.hid (HR6.out.set (kk + 1) nd).gs
                                  clear HM2 HF2
                                  go_wp2
                                  go_roundw
                                  case rel => exact ⟨kk + 1, K + 1, _, by omega, HKS, by go_num, by rw [List.length_set]; exact HLN.out.1, Lib.hid (HLN.out.2.set _ _ (by omega) (by omega)), HF, HR7⟩
                                  case measure => simp [intOf]; have := HL.out; omega
                                · have hu0 : 0 ≤ u := by omega
                                  by_cases u2 : u = nd
                                  · subst u2
                                    have HF := Lib.hid (show filterOK cd p (a : Int) = finL j (runL cd p a (a + j) ((cd.is.drop (a + (kk + 1))).take (j - (kk + 1))) (a + (kk + 1)) (h2.set (kk + 1) u)) by rw [HF2.out, HM2.out, if_pos (.inr rfl)])
                                    have HR7 := Lib.hid (HR6.out.set (kk + 1) u).gs
                                    clear HM2 HF2
                                    go_wp2
                                    go_roundw
                                    case rel => exact ⟨kk + 1, K + 1, _, by omega, HKS, by go_num, by rw [List.length_set]; exact HLN.out.1, Lib.hid (HLN.out.2.set _ _ (by omega) (by omega)), HF, HR7⟩
                                    case measure => simp [intOf]; have := HL.out; omega
                                  · have hu2 : (u == nd) = false := beq_eq_false_iff_ne.2 u2
                                    have hu3 : (u != nd) = true := by unfold bne; rw [hu2]; rfl
                                    have HF := Lib.hid (show filterOK cd p (a : Int) = false by rw [HF2.out, HM2.out, if_neg (by omega)])
                                    clear HM2 HF2
                                    go_wp2
                                    go_ret
                                    exact ⟨ret_bool HF.out.symm, HW.out⟩
              · obtain rfl : kk = j := by have := HK.out; have := HL.out; omega
                have HF := Lib.hid (HQ.out.trans (run_end cd p a kk hs v hv))
                have hkl : ¬ (K : Int) < (k : Int) := by omega
                have HW := Lib.hid hbe
                clear HQ hv hb1 hb3 hbe fg hSg
                by_cases hv1 : v = 1
                · subst hv1
                  go_wp2
                  go_ret
                  exact ⟨ret_bool (by rw [HF.out]; rfl), HW.out⟩
                · have hd1 : (v == 1) = false := beq_eq_false_iff_ne.2 hv1
                  go_wp2
                  go_ret
                  exact ⟨ret_bool (by rw [HF.out]; exact (decide_eq_false hv1).symm), HW.out⟩

end Go.Proofs.Ythlcbjjeklkmfaa

