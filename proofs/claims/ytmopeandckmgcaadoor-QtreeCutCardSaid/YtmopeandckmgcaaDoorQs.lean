/- qtree: Singular. -/
import Derived.Test.YtmopeandckmgcaaDoorQi
namespace Go.Proofs.YtmopeandckmgcaaDoor
open Go.RowKit

/-- A segment that comes to one value at most. -/
def segSing (s : SegT) : Bool := !s.deep && (match s.sels with | [x] => decide (x.kind = 0 ∨ x.kind = 2) | _ => false)
theorem singB_all (p : PathT) : singB p = p.segs.all segSing := rfl

set_option maxRecDepth 100000 in
set_option maxHeartbeats 1000000 in
theorem sing1_any {K : Nat → Prop} {R : List Value → ExprT → Prop} (dp : Bool) (l : List SelT) (A : Option Addr) (c : Nat) (w : World) (h : RowG K 9 (SelC K R w) w (.slice A l.length c) l) :
    Calls Tryd.prog 94 #[.agg #[.bool dp, .slice A l.length c]] w fun e w' => e = .returned (.bool (!segSing ⟨dp, l⟩)) ∧ Bel w.heap.size w w' := by
  cases dp with
  | true =>
    clear h
    go_enter Tryd.func94, Tryd.ntmps94
    go_wp2
    go_ret
    exact ⟨ret_bool rfl, Bel.of (by (repeat' (first | (with_reducible exact Below.refl _ _) | (with_reducible refine Below.trans ?_ (below_drewN _ _ _)) | (with_reducible refine Below.alloc ?_ ?_ _) | (with_reducible refine Below.setCell ?_ ?_ _) | (with_reducible refine Below.drew ?_) | go_size)))⟩
  | false =>
    by_cases hl : l.length = 1
    · obtain ⟨y, rfl⟩ := List.length_eq_one_iff.1 hl
      obtain ⟨A', cap, e1, -, h3⟩ := h
      obtain ⟨b, off, rfl, hK, hb, hc⟩ := h3.resolve_left (by simp)
      obtain ⟨cs, -, hcs, pv, rfl, -⟩ := hc 0 y rfl
      have d0 := hcs 0 _ rfl
      rw [show off + 0 * 9 + 0 = off by omega] at d0
      obtain rfl : A = some ⟨b, off, none⟩ := by simpa using (Value.slice.inj e1).1
      clear hcs hc h3 e1 hl
      by_cases k0 : y.kind = 0
      · have h0 : (y.kind != 0) = false := by rw [k0]; rfl
        have HE := Lib.hid (show segSing ⟨false, [y]⟩ = true by unfold segSing; simp [k0])
        clear k0
        go_enter Tryd.func94, Tryd.ntmps94
        go_wp2
        go_ret
        exact ⟨ret_bool (by rw [HE.out]; rfl), Bel.of (by (repeat' (first | (with_reducible exact Below.refl _ _) | (with_reducible refine Below.trans ?_ (below_drewN _ _ _)) | (with_reducible refine Below.alloc ?_ ?_ _) | (with_reducible refine Below.setCell ?_ ?_ _) | (with_reducible refine Below.drew ?_) | go_size)))⟩
      · have h0 : (y.kind != 0) = true := bne_iff_ne.2 k0
        obtain ⟨q, hq⟩ : ∃ q, (y.kind != 2) = q := ⟨_, rfl⟩
        have HE := Lib.hid (show segSing ⟨false, [y]⟩ = !q by unfold segSing; rw [← hq]; by_cases k2 : y.kind = 2 <;> simp [k0, k2])
        clear k0
        go_enter Tryd.func94, Tryd.ntmps94
        go_wp2
        go_ret
        exact ⟨ret_bool (by rw [HE.out, Bool.not_not]), Bel.of (by (repeat' (first | (with_reducible exact Below.refl _ _) | (with_reducible refine Below.trans ?_ (below_drewN _ _ _)) | (with_reducible refine Below.alloc ?_ ?_ _) | (with_reducible refine Below.setCell ?_ ?_ _) | (with_reducible refine Below.drew ?_) | go_size)))⟩
    · have hn : ((l.length : Int) != 1) = true := by rw [bne_iff_ne]; omega
      have HE := Lib.hid (show segSing ⟨false, l⟩ = false by
        unfold segSing
        match l, hl with
        | [], _ => rfl
        | [_], hl => simp at hl
        | _ :: _ :: _, _ => rfl)
      clear h hl
      go_enter Tryd.func94, Tryd.ntmps94
      go_wp2
      go_ret
      exact ⟨ret_bool (by rw [HE.out]; rfl), Bel.of (by (repeat' (first | (with_reducible exact Below.refl _ _) | (with_reducible refine Below.trans ?_ (below_drewN _ _ _)) | (with_reducible refine Below.alloc ?_ ?_ _) | (with_reducible refine Below.setCell ?_ ?_ _) | (with_reducible refine Below.drew ?_) | go_size)))⟩
/-- Two cells of a row of segments. -/
theorem SegsG.at_ {K : Nat → Prop} {R : List Value → ExprT → Prop} {w : World} {A : Option Addr} {n c : Nat} {l : List SegT} (h : SegsG K R w (.slice A n c) l) {k : Nat} {x : SegT} (hk : l[k]? = some x) :
    ∃ b off A2 c2, A = some ⟨b, off, none⟩ ∧ b < w.heap.size ∧ w.cell? ⟨b, off + k * 2, none⟩ = some (.bool x.deep) ∧ w.cell? ⟨b, off + k * 2 + 1, none⟩ = some (.slice A2 x.sels.length c2) ∧ RowG K 9 (SelC K R w) w (.slice A2 x.sels.length c2) x.sels := by
  obtain ⟨A', cap, e1, -, h3⟩ := h
  obtain ⟨b, off, rfl, hK, hb, hc⟩ := h3.resolve_left (by intro e; rw [e] at hk; simp at hk)
  obtain ⟨cs, -, hcs, sv, rfl, hrow⟩ := hc k x hk
  obtain ⟨A2, c2, rfl⟩ := hrow.slice
  obtain rfl : A = some ⟨b, off, none⟩ := (Value.slice.inj e1).1
  exact ⟨b, off, A2, c2, rfl, hb, hcs 0 _ rfl, hcs 1 _ rfl, hrow⟩
theorem SegsG.bel {K : Nat → Prop} {R : List Value → ExprT → Prop} {m : Nat} {w w' : World} {v : Value} {l : List SegT} (_hR : R = ExR K m w) (h : SegsG K (ExR K m w) w v l) (hb : Bel w.heap.size w w') : SegsG K (ExR K m w') w' v l :=
  h.keep (Kp.of_bel hb fun _ h _ => h) fun _ _ h => ExR.keep (Kp.of_bel hb fun _ h _ => h) _ _ (Nat.le_refl _) _ _ h

set_option maxRecDepth 100000 in
set_option maxHeartbeats 1000000 in
theorem indexFunc_any {K : Nat → Prop} {m : Nat} (l : List SegT) (A : Option Addr) (c : Nat) (w : World) (hl : l.length ≤ 10000000) (h : SegsG K (ExR K m w) w (.slice A l.length c) l) :
    Calls Tryd.prog 95 #[.slice A l.length c, .func (.func 94) #[] #[]] w fun e w' => ∃ r : Int, e = .returned (.int .i64 r) ∧ decide (0 ≤ r) = !l.all segSing ∧ Bel w.heap.size w w' := by
  have HG := Lib.hid h
  clear h
  go_enter Tryd.func95, Tryd.ntmps95
  go_wp2
  go_loopw [8] (fun i wr => ∃ k : Nat, k ≤ l.length ∧ i = .int .i64 k ∧ Hid (Bel w.heap.size w wr) ∧ Hid (l.all segSing = (l.drop k).all segSing)) (fun i _ => l.length - (intOf i).toNat)
  case atStart => exact ⟨0, Nat.zero_le _, rfl, Lib.hid (Bel.refl _ _), Lib.hid rfl⟩
  case round =>
    obtain ⟨k, hk, rfl, HW, HE⟩ := hrel
    rcases Nat.lt_or_ge k l.length with hlt | hge
    · obtain ⟨x, hx⟩ : ∃ x, l[k]? = some x := ⟨_, List.getElem?_eq_getElem hlt⟩
      have hG2 := SegsG.bel rfl HG.out HW.out
      obtain ⟨b, off, A2, c2, rfl, hb, d0, d1, hrow⟩ := hG2.at_ hx
      have HS := Lib.hid (sing1_any x.deep x.sels A2 c2 wr hrow)
      have hdr : l.drop k = x :: l.drop (k + 1) := by
        have hak : l[k] = x := by rw [List.getElem?_eq_getElem hlt] at hx; injection hx
        rw [List.drop_eq_getElem_cons hlt, hak]
      have HE2 := Lib.hid (HE.out.trans (by rw [hdr, List.all_cons]))
      have hlt2 : (k : Int) < (l.length : Int) := by omega
      obtain ⟨r, hr⟩ : ∃ r, segSing x = r := ⟨_, rfl⟩
      have hr' : segSing ⟨x.deep, x.sels⟩ = r := hr
      rw [hr'] at HS
      rw [hr] at HE2
      clear hdr hx HE hrow hG2 hr hr'
      cases r with
      | false =>
        go_wp2_with (go_at_call 94; refine HS.out.mono ?_; rintro e w2 ⟨rfl, hb2⟩; have HW2 := Lib.hid (HW.out.next hb2); clear hb2)
        go_ret
        exact ⟨_, rfl, by rw [HE2.out]; simp, HW2.out⟩
      | true =>
        go_wp2_with (go_at_call 94; refine HS.out.mono ?_; rintro e w2 ⟨rfl, hb2⟩; have HW2 := Lib.hid (HW.out.next hb2); clear hb2)
        go_roundw
        case measure => simp [intOf]; omega
        case rel => exact ⟨k + 1, hlt, by simp, HW2, Lib.hid (by rw [HE2.out, Bool.true_and])⟩
    · have hge2 : ¬ (k : Int) < (l.length : Int) := by omega
      have HF := Lib.hid (show l.all segSing = true by rw [HE.out, List.drop_of_length_le hge]; rfl)
      clear HE
      go_wp2
      go_ret
      exact ⟨_, rfl, by rw [HF.out]; rfl, HW.out⟩

set_option maxRecDepth 100000 in
set_option maxHeartbeats 1000000 in
theorem containsFunc_any {K : Nat → Prop} {m : Nat} (l : List SegT) (A : Option Addr) (c : Nat) (w : World) (hl : l.length ≤ 10000000) (h : SegsG K (ExR K m w) w (.slice A l.length c) l) :
    Calls Tryd.prog 93 #[.slice A l.length c, .func (.func 94) #[] #[]] w fun e w' => e = .returned (.bool (!l.all segSing)) ∧ Bel w.heap.size w w' := by
  have HI := Lib.hid (indexFunc_any l A c w hl h)
  clear h
  go_enter Tryd.func93, Tryd.ntmps93
  go_wp2_with (go_at_call 95; refine HI.out.mono ?_; rintro e w2 ⟨r, rfl, hr, hb⟩; have HR := Lib.hid hr; have HB := Lib.hid hb; clear hr hb)
  go_ret
  exact ⟨ret_bool (by rw [← HR.out]), HB.out⟩

set_option maxRecDepth 100000 in
set_option maxHeartbeats 1000000 in
theorem singular_any {K : Nat → Prop} {m : Nat} (p : PathT) (A : Option Addr) (c : Nat) (w : World) (hl : p.segs.length ≤ 10000000) (h : SegsG K (ExR K m w) w (.slice A p.segs.length c) p.segs) :
    Calls Tryd.prog 90 #[.agg #[.bool p.abs, .slice A p.segs.length c]] w fun e w' => e = .returned (.bool (singB p)) ∧ Bel w.heap.size w w' := by
  obtain ⟨ab, l⟩ := p
  simp only at h hl ⊢
  have hb0 : Bel w.heap.size w (w.alloc (.cells #[.bool ab, .slice A l.length c] 33)) := (Bel.refl _ _).alloc (Nat.le_refl _) _
  have HC := Lib.hid (containsFunc_any l A c _ hl (SegsG.bel rfl h hb0))
  have HB := Lib.hid hb0
  have HE := Lib.hid (show singB ⟨ab, l⟩ = l.all segSing from rfl)
  clear h hb0
  go_enter Tryd.func90, Tryd.ntmps90
  go_wp2_with (go_at_call 93; refine HC.out.mono ?_; rintro e w2 ⟨rfl, hb⟩; have HB2 := Lib.hid (HB.out.next hb); clear hb)
  go_ret
  exact ⟨ret_bool (by rw [HE.out]), HB2.out⟩

end Go.Proofs.YtmopeandckmgcaaDoor
