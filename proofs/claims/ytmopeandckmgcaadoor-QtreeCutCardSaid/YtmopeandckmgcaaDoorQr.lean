/- qtree: ops, slices.Index, op. -/
import Derived.Test.YtmopeandckmgcaaDoorQn
namespace Go.Proofs.YtmopeandckmgcaaDoor
open Go.RowKit

/-- The place of a text in a row; -1: it is not there. -/
def idxL (s : List UInt8) : List (List UInt8) → Int → Int
  | [], _ => -1
  | a :: r, i => if s == a then i else idxL s r (i + 1)
theorem idxL_find (s : List UInt8) : ∀ (l : List (List UInt8)) (i : Int), idxL s l i = (match l.findIdx? (fun x => x == s) with | some j => i + (j : Int) | none => -1)
  | [], _ => rfl
  | a :: r, i => by
    rw [idxL, List.findIdx?_cons, idxL_find s r (i + 1)]
    by_cases h : s = a
    · subst h; simp
    · have h' : a ≠ s := fun e => h e.symm
      simp only [beq_iff_eq, h, h', if_false]
      cases r.findIdx? (fun x => x == s) with
      | none => rfl
      | some j => show i + 1 + (j : Int) = i + ((j + 1 : Nat) : Int); push_cast; omega
theorem opS_idx {t : PSt} (h : kindS t = 1) : opS t = idxL (hdT t).s opsL 0 := by
  rw [idxL_find]
  unfold opS
  rw [if_pos h]
  cases opsL.findIdx? (fun x => x == (hdT t).s) with
  | none => rfl
  | some j => simp

set_option maxRecDepth 100000 in
set_option maxHeartbeats 1000000 in
theorem ops_any (w : World) : Calls Tryd.prog 92 #[] w fun e w' => e = .returned (.slice (some ⟨w.heap.size, 0, none⟩) 6 6) ∧ w' = w.alloc (.cells #[.string ⟨#[61, 61]⟩, .string ⟨#[33, 61]⟩, .string ⟨#[60]⟩, .string ⟨#[60, 61]⟩, .string ⟨#[62]⟩, .string ⟨#[62, 61]⟩] 9) := by
  go_enter Tryd.func92, Tryd.ntmps92
  go_wp2
  go_ret
  exact ⟨rfl, rfl⟩

set_option maxRecDepth 100000 in
set_option maxHeartbeats 1000000 in
theorem index_any (b off : Nat) (l : List (List UInt8)) (c : Nat) (s : List UInt8) (w : World) (hl : l.length ≤ 1000) (hc : ∀ i a, l[i]? = some a → w.cell? ⟨b, off + i, none⟩ = some (.string (bs a))) :
    Calls Tryd.prog 91 #[.slice (some ⟨b, off, none⟩) l.length c, .string (bs s)] w fun e w' => e = .returned (.int .i64 (idxL s l 0)) ∧ w = w' := by
  have HC := Lib.hid hc
  clear hc
  go_enter Tryd.func91, Tryd.ntmps91
  go_wp2
  go_loopw [8] (fun i wr => ∃ k : Nat, k ≤ l.length ∧ i = .int .i64 k ∧ wr = w ∧ Hid (idxL s l 0 = idxL s (l.drop k) k)) (fun i _ => l.length - (intOf i).toNat)
  case atStart => exact ⟨0, Nat.zero_le _, rfl, rfl, Lib.hid rfl⟩
  case round =>
    obtain ⟨k, hk, rfl, rfl, HE⟩ := hrel
    rcases Nat.lt_or_ge k l.length with hlt | hge
    · obtain ⟨a, ha⟩ : ∃ a, l[k]? = some a := ⟨_, List.getElem?_eq_getElem hlt⟩
      have hcell := HC.out k a ha
      have hdr : l.drop k = a :: l.drop (k + 1) := by
        have hak : l[k] = a := by rw [List.getElem?_eq_getElem hlt] at ha; injection ha
        rw [List.drop_eq_getElem_cons hlt, hak]
      have HE2 := Lib.hid (HE.out.trans (by rw [hdr, idxL]))
      have hlt2 : (k : Int) < (l.length : Int) := by omega
      clear hdr ha HE
      cases hb : (s == a) with
      | true =>
        have hcmp : ((bs s).toList == (bs a).toList) = true := by rw [bs_tl, bs_tl]; exact hb
        have HF := Lib.hid (show idxL s l 0 = k by rw [HE2.out, ite_tt hb])
        clear hb HE2
        go_wp2
        go_ret
        exact ⟨ret_int HF.out.symm, rfl⟩
      | false =>
        have hcmp : ((bs s).toList == (bs a).toList) = false := by rw [bs_tl, bs_tl]; exact hb
        have HF := Lib.hid (show idxL s l 0 = idxL s (l.drop (k + 1)) ((k : Int) + 1) by rw [HE2.out, ite_ff hb])
        clear hb HE2
        go_wp2
        go_roundw
        case measure => simp [intOf]; omega
        case rel => exact ⟨k + 1, hlt, by simp, by first | rfl | trivial, Lib.hid (by rw [HF.out]; simp)⟩
    · have hge2 : ¬ (k : Int) < (l.length : Int) := by omega
      have HF := Lib.hid (show idxL s l 0 = -1 by rw [HE.out, List.drop_of_length_le hge]; rfl)
      clear HE
      go_wp2
      go_ret
      exact ⟨ret_int HF.out.symm, by first | rfl | trivial⟩

theorem ops_cells {w : World} {b : Nat} {T : TypeId} (h : Blk w b T #[.string ⟨#[61, 61]⟩, .string ⟨#[33, 61]⟩, .string ⟨#[60]⟩, .string ⟨#[60, 61]⟩, .string ⟨#[62]⟩, .string ⟨#[62, 61]⟩]) :
    ∀ i a, opsL[i]? = some a → w.cell? ⟨b, 0 + i, none⟩ = some (.string (bs a)) := by
  intro i a ha
  rw [Nat.zero_add, h.cell i]
  match i, ha with
  | 0, ha => cases ha; rfl
  | 1, ha => cases ha; rfl
  | 2, ha => cases ha; rfl
  | 3, ha => cases ha; rfl
  | 4, ha => cases ha; rfl
  | 5, ha => cases ha; rfl
  | n + 6, ha => simp [opsL] at ha
theorem ops_index (s : List UInt8) (w : World) (b : Nat) (h : Blk w b 9 #[.string ⟨#[61, 61]⟩, .string ⟨#[33, 61]⟩, .string ⟨#[60]⟩, .string ⟨#[60, 61]⟩, .string ⟨#[62]⟩, .string ⟨#[62, 61]⟩]) :
    Calls Tryd.prog 91 #[.slice (some ⟨b, 0, none⟩) 6 6, .string (bs s)] w fun e w' => e = .returned (.int .i64 (idxL s opsL 0)) ∧ w = w' :=
  index_any b 0 opsL 6 s w (by decide) (ops_cells h)

set_option maxRecDepth 100000 in
set_option maxHeartbeats 2000000 in
theorem op_any (g : Nat) (E : Int) (t : PSt) (d : Nat) (w : World) (h : RdS g E w t d) :
    Calls Tryd.prog 89 #[.pointer (some ⟨g, 0, none⟩)] w fun e w' => e = .returned (.int .i64 (opS t)) ∧ RdS g E w' t d ∧ Ex g w w' := by
  obtain ⟨k, hk⟩ : ∃ k, kindS t = k := ⟨_, rfl⟩
  have HR := Lib.hid h
  have HK := Lib.hid (kind_at k w h (Lib.hid hk))
  by_cases h1 : k = 1
  · have hk1 : (k == 1) = true := by rw [h1]; rfl
    have HE := Lib.hid (show opS t = idxL (hdT t).s opsL 0 from opS_idx (hk.trans h1))
    obtain ⟨A, c, n, hn, hnc, hc, hd, hg, ⟨c0, c1, c2, c3, c4⟩, _, hT⟩ := h.cells
    have hov : ovS t = false := by
      cases h9 : ovS t with
      | false => rfl
      | true => have := (nextS_ov (E := E) h9).2; unfold kindS at hk; rw [this] at hk; simp [tok0] at hk; omega
    obtain ⟨x, r, hx⟩ := ov_no hov
    have hx1 : (hdT t).s = x.s := by rw [hx]; rfl
    rw [hx1] at HE
    rw [hx] at hn hT
    obtain ⟨b, off, rfl, hb, y0, y1, y2, y3, y4⟩ := hT.head
    have hn0 : (0 : Int) < (n : Int) := by rw [hn]; simp
    have hb2 : b < w.heap.size := by omega
    have HO := Lib.hid ops_any
    have HX := Lib.hid (fun w b h => ops_index x.s w b h)
    clear h hk h1 hT hn hov hx hx1
    go_enter Tryd.func89, Tryd.ntmps89
    go_wp2_with (go_at_call 24; refine HK.out.mono ?_; rintro e w' ⟨rfl, rfl⟩)
    go_region_with (first | (go_at_call 92; refine (HO.out _).mono ?_; rintro e w1 ⟨rfl, rfl⟩) | (go_at_call 91; refine (HX.out _ _ ?_).mono ?_; (first | exact Blk.new _ _ _ | exact Blk.new w.drew _ _); rintro e w1 ⟨rfl, rfl⟩))
    all_goals
      go_wp2
      go_ret
      exact ⟨ret_int HE.out.symm, by first | exact HR.out.alloc _ | exact HR.out.drew.alloc _ | exact (HR.out.alloc _).drew | exact (HR.out.drew.alloc _).drew, by first | exact (Ex.refl g w).alloc _ | exact (Ex.refl g w).drew.alloc _ | exact ((Ex.refl g w).alloc _).drew | exact ((Ex.refl g w).drew.alloc _).drew⟩
  · have hk1 : (k != 1) = true := by rw [bne_iff_ne]; exact h1
    have HE := Lib.hid (show opS t = -1 by unfold opS; rw [hk, if_neg h1])
    clear hk h1 h
    go_enter Tryd.func89, Tryd.ntmps89
    go_wp2_with (go_at_call 24; refine HK.out.mono ?_; rintro e w' ⟨rfl, rfl⟩)
    go_ret
    exact ⟨ret_int HE.out.symm, HR.out, Ex.refl g w⟩

end Go.Proofs.YtmopeandckmgcaaDoor
