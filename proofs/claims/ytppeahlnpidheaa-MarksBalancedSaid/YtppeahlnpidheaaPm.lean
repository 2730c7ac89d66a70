/- ref12: many. -/
import Derived.Test.YtppeahlnpidheaaPd
namespace Go.Proofs.Ytppeahlnpidheaa
open Go.RowKit

theorem max_if (a b : Nat) : (if a < b then (b : Int) else (a : Int)) = ((max a b : Nat) : Int) := by split <;> omega
theorem hd_n' {s : ByteArray} {p : Nat} {c : UInt8} {n : Int} (h : p < s.size) (e : (c.toNat : Int) = n) : ((s[p].toNat : Int) != n) = !hd (dr s p) c := by rw [← hd_i' h e]; rfl
theorem hd_nb' {s : ByteArray} {p : Nat} {c : UInt8} {n : Int} (h : p < s.size) (e : (c.toNat : Int) = n) : (decide (s.size ≤ p) || ((s[p].toNat : Int) != n)) = !hd (dr s p) c := by rw [hd_n' h e, decide_eq_false (by omega)]; rfl
theorem hd_no {s : ByteArray} {p : Nat} {c : UInt8} (h : s.size ≤ p) : true = !hd (dr s p) c := by rw [hd_o h]; rfl

set_option maxRecDepth 100000 in
set_option maxHeartbeats 4000000 in
theorem many_step (s : ByteArray) (hs : s.size ≤ 9223372036854774000) (g : Nat) (hI : ∀ j, j ≤ g → IC s j) : MC s (g + 1) := by
  intro z a w hz ha hg
  have hb := blN_bd s a ha
  generalize hp : a + blN (dr s a) = p at hb
  have hbl := fun w => bl_call s a p w hs ha hp
  cases he : hd (dr s p) z with
  | true =>
    have HN := Lib.hid (vat_many_end (g := g) hp he)
    have hlt := hd_lt he
    rw [hd_i hlt] at he
    clear hp hI
    generalize vat (manyL (g + 1) z) s a = o at *
    go_enter Try.func32, Try.ntmps32
    go_wp2_with (go_at_call 26; refine (hbl _).mono ?_; rintro e w' ⟨rfl, rfl⟩)
    refine bodyPost_ret (v := RV (p + 1) true 1) (by simp [results, Try.results32, go_sem, RV]) rfl ?_
    exact ⟨_, _, _, rfl, by rw [HN.out]; exact ⟨rfl, by simp, rfl⟩, Bel.of (by (repeat' (first | (with_reducible exact Below.refl _ _) | (with_reducible refine Below.trans ?_ (below_drewN _ _ _)) | (with_reducible refine Below.alloc ?_ ?_ _) | (with_reducible refine Below.setCell ?_ ?_ _) | (with_reducible refine Below.drew ?_) | go_size)))⟩
  | false =>
    have HN := Lib.hid (vat_many (g := g) hp he)
    have hpa : a ≤ p := by omega
    clear hp
    generalize vat (manyL (g + 1) z) s a = o at *
    go_enter Try.func32, Try.ntmps32
    go_upto_region 2 with (go_at_call 26; refine (hbl _).mono ?_; rintro e w' ⟨rfl, rfl⟩)
    go_cut [1, 23] (fun v v' wx => v = .int .i64 p ∧ v' = .bool false ∧ wx = (w.alloc (.cells #[.int .i64 0, .bool false, .int .i64 0] 24)))
    case first =>
      go_wp2
      all_goals
        go_meet
        case rel => exact ⟨rfl, congrArg Value.bool (Eq.trans (b := hd (dr s p) z) (by first | exact hd_i' (show p < s.size by omega) rfl | exact (hd_o (show s.size ≤ p by omega)).symm) he), rfl⟩
    case rest =>
      obtain ⟨rfl, rfl, rfl⟩ := hcut
      clear he hbl
      go_wp2
      go_loopw [1, 7, 8] (fun v v7 v8 wr => ∃ (q dd k G : Nat), q ≤ s.size ∧ k ≤ q ∧ v = .int .i64 q ∧ v7 = .int .i64 dd ∧ v8 = .int .i64 k ∧ dd ≤ q ∧ G ≤ g ∧ 4 * (s.size - q) + 3 ≤ G ∧ Hid (o = vat (fun l => itemsL G z l dd) s q) ∧ Hid (Bel (w.heap.size + 1) (w.alloc (.cells #[.int .i64 0, .bool false, .int .i64 0] 24)) wr)) (fun v _ _ _ => s.size - (intOf v).toNat)
      case atStart => exact ⟨p, 0, 0, g, hb, by omega, rfl, rfl, rfl, by omega, Nat.le_refl _, by omega, HN, Lib.hid (Bel.refl _ _)⟩
      case round =>
        clear HN
        obtain ⟨q, dd, k, G, hq, hkq, rfl, rfl, rfl, hdq, hGg, hG, HV, HB1⟩ := hrel
        obtain ⟨G, rfl⟩ : ∃ j, G = j + 1 := ⟨G - 1, by omega⟩
        have HR1 := Lib.hid ((R3.new w 0 0 false 24).bel HB1.out (by omega))
        have hit := fun w => hI G (by omega) z q w hz hq (by omega)
        have hks : k ≤ s.size := by omega
        obtain ⟨fsz, ⟨f0, f1, f2⟩, g0, g1, g2⟩ := HR1.out
        cases hi : vat (itemL G z) s q with
        | none =>
          rw [hi] at hit
          have HX := Lib.hid (HV.out.trans (vat_items_no hi))
          clear hi HV
          go_wp2_with (go_at_call 34; refine (hit _).mono ?_; rintro e w5 ⟨m, ok, d, rfl, ⟨rfl, rfl⟩, hb5⟩; simp only [RV]; have HR5 := Lib.hid (HR1.out.bel hb5 fsz); have HB5 := Lib.hid (HB1.out.trans (hb5.mono (by omega))); clear hb5 f0 f1 f2 g0 g1 g2; obtain ⟨fsz5, ⟨f0, f1, f2⟩, g0, g1, g2⟩ := HR5.out)
          refine bodyPost_ret (v := RV m false 0) (by simp [results, Try.results32, go_sem, RV, f0, f1, f2, World.cell?_alloc_past, fsz5]) rfl ?_
          exact ⟨m, false, 0, rfl, by rw [HX.out]; exact Res.none_ _, by have HW := Lib.hid ((Bel.of (by (repeat' (first | (with_reducible exact Below.refl _ _) | (with_reducible refine Below.trans ?_ (below_drewN _ _ _)) | (with_reducible refine Below.alloc ?_ ?_ _) | (with_reducible refine Below.setCell ?_ ?_ _) | (with_reducible refine Below.drew ?_) | go_size))) : Bel w.heap.size w (w.alloc (.cells #[.int .i64 0, .bool false, .int .i64 0] 24))).trans (HB5.out.mono (by omega))); (repeat' (first | (with_reducible exact HW.out) | (with_reducible exact HB5.out) | (with_reducible refine Bel.setCell ?_ (by first | exact Nat.le_refl _ | (simp; omega) | omega) _) | (with_reducible refine Bel.alloc ?_ (by first | exact Nat.le_refl _ | (simp; omega) | omega) _) | (with_reducible refine Bel.drew ?_) | (with_reducible refine Bel.drewN ?_ _)))⟩
        | some x =>
          obtain ⟨q', e⟩ := x
          rw [hi] at hit
          have hqb := vat_bd (itemL_bd G hz) hq hi
          have heb := vat_dp ((all_dp G).2.1 z) hi
          have hpb := blN_bd s q' hqb.2
          generalize hp : q' + blN (dr s q') = p' at hpb
          have hbl := fun w => bl_call s q' p' w hs hqb.2 hp
          have HE := Lib.hid (fun h => HV.out.trans (vat_items_end (d := dd) hi hp h))
          have HM := Lib.hid (fun h h' => HV.out.trans (vat_items_more (d := dd) hi hp h h'))
          have HBD := Lib.hid (fun h h' => HV.out.trans (vat_items_bad (d := dd) hi hp h h'))
          have hqp : q' ≤ p' := by omega
          clear hi HV hp
          go_upto_region 13 with (first
            | (go_at_call 34; refine (hit _).mono ?_; rintro e w5 ⟨m, ok, d, rfl, ⟨rfl, rfl, rfl⟩, hb5⟩; simp only [RV]; have HR5 := Lib.hid (HR1.out.bel hb5 fsz); have HB5 := Lib.hid (HB1.out.trans (hb5.mono (by omega))); clear hb5 f0 f1 f2 g0 g1 g2; obtain ⟨fsz5, ⟨f0, f1, f2⟩, g0, g1, g2⟩ := HR5.out)
            | (go_at_call 26; refine (hbl _).mono ?_; rintro e w' ⟨rfl, rfl⟩))
          go_cut [7, 59] (fun v7 v' wx => v7 = .int .i64 ((max dd e : Nat) : Int) ∧ v' = .bool (hd (dr s p') z) ∧ wx = w5.alloc (.cells #[.int .i64 q', .bool true, .int .i64 e] 24))
          case first =>
            go_wp2
            all_goals
              go_meet
              case rel => exact ⟨congrArg (Value.int .i64) (by first | omega | exact max_if dd e), congrArg Value.bool (by first | exact hd_i' (show p' < s.size by omega) rfl | exact (hd_o (show s.size ≤ p' by omega)).symm), rfl⟩
          case rest =>
            obtain ⟨rfl, rfl, rfl⟩ := hcut
            have hmx : max dd e ≤ p' := by omega
            generalize max dd e = dm at *
            have HW := Lib.hid ((Bel.of (by (repeat' (first | (with_reducible exact Below.refl _ _) | (with_reducible refine Below.trans ?_ (below_drewN _ _ _)) | (with_reducible refine Below.alloc ?_ ?_ _) | (with_reducible refine Below.setCell ?_ ?_ _) | (with_reducible refine Below.drew ?_) | go_size))) : Bel w.heap.size w (w.alloc (.cells #[.int .i64 0, .bool false, .int .i64 0] 24))).trans (HB5.out.mono (by omega)))
            clear hit hbl
            cases hz' : hd (dr s p') z with
            | true =>
              have HX := Lib.hid (HE.out hz')
              have hlt := hd_lt hz'
              clear hz' HE HM HBD
              go_wp2
              refine bodyPost_ret (v := RV (p' + 1) true (dm + 1)) (by simp [results, Try.results32, go_sem, RV, f0, f1, f2, World.cell?_alloc_past, fsz5]) rfl ?_
              exact ⟨_, _, _, rfl, by rw [HX.out]; exact ⟨rfl, by simp, by simp⟩, by (repeat' (first | (with_reducible exact HW.out) | (with_reducible exact HB5.out) | (with_reducible refine Bel.setCell ?_ (by first | exact Nat.le_refl _ | (simp; omega) | omega) _) | (with_reducible refine Bel.alloc ?_ (by first | exact Nat.le_refl _ | (simp; omega) | omega) _) | (with_reducible refine Bel.drew ?_) | (with_reducible refine Bel.drewN ?_ _)))⟩
            | false =>
              go_upto_region 15 with fail
              go_cut [74] (fun v' wx => v' = .bool (!hd (dr s p') 44) ∧ wx = w5.alloc (.cells #[.int .i64 q', .bool true, .int .i64 e] 24))
              case first =>
                go_wp2
                all_goals
                  go_meet
                  case rel => exact ⟨congrArg Value.bool (by first | exact hd_nb' (show p' < s.size by omega) rfl | exact hd_n' (show p' < s.size by omega) rfl | exact hd_no (show s.size ≤ p' by omega)), rfl⟩
              case rest =>
                obtain ⟨rfl, rfl⟩ := hcut
                cases hc : hd (dr s p') 44 with
                | true =>
                  have HX := Lib.hid (HM.out hz' hc)
                  have hlt := hd_lt hc
                  clear hz' hc HE HM HBD
                  go_wp2
                  go_roundw
                  case rel => exact ⟨p' + 1, dm, k + 1, G, by omega, by omega, by go_num, rfl, by go_num, by omega, by omega, by omega, HX, Lib.hid ((HB5.out.alloc (by omega) _))⟩
                  case measure => simp [intOf] <;> omega
                | false =>
                  have HX := Lib.hid (HBD.out hz' hc)
                  clear hz' hc HE HM HBD
                  go_wp2_with (go_at_call 19; go_in)
                  refine bodyPost_ret (v := RV p' false 0) (by simp [results, Try.results32, go_sem, RV, f0, f1, f2, World.cell?_alloc_past, fsz5]) rfl ?_
                  exact ⟨_, _, _, rfl, by rw [HX.out]; exact Res.none_ _, by (repeat' (first | (with_reducible exact HW.out) | (with_reducible exact HB5.out) | (with_reducible refine Bel.setCell ?_ (by first | exact Nat.le_refl _ | (simp; omega) | omega) _) | (with_reducible refine Bel.alloc ?_ (by first | exact Nat.le_refl _ | (simp; omega) | omega) _) | (with_reducible refine Bel.drew ?_) | (with_reducible refine Bel.drewN ?_ _)))⟩

theorem vals (s : ByteArray) (hs : s.size ≤ 9223372036854774000) : ∀ f g, g ≤ f → VC s g ∧ IC s g ∧ MC s g
  | 0, g, h => by
    obtain rfl : g = 0 := by omega
    exact ⟨fun a w _ h => by omega, fun z a w _ _ h => by omega, fun z a w _ _ h => by omega⟩
  | f + 1, g, h => by
    cases g with
    | zero => exact ⟨fun a w _ h => by omega, fun z a w _ _ h => by omega, fun z a w _ _ h => by omega⟩
    | succ g =>
      have ih := vals s hs f
      exact ⟨value_step s hs g (ih g (by omega)).2.2, item_step s hs g (ih g (by omega)).1, many_step s hs g (fun j hj => (ih j (by omega)).2.1)⟩
theorem value_any (s : ByteArray) (hs : s.size ≤ 9223372036854774000) (w : World) :
    Calls Try.prog 25 #[.string s, .int .i64 0] w (RP w (vat (valL (4 * s.size + 8)) s 0)) :=
  (vals s hs _ _ (Nat.le_refl _)).1 0 w (by omega) (by omega)

/-- Text: is it a JSON text? -/
def TP (w : World) (ok : Bool) (e : Ending) (w' : World) : Prop := ∃ m d : Int, e = .returned (RV m ok d) ∧ Bel w.heap.size w w'
theorem textL_vat (s : ByteArray) : (textL s.data.toList).isSome = match vat (valL (4 * s.size + 8)) s 0 with | none => false | some (q, _) => decide (q + blN (dr s q) = s.size) := by
  have hl : s.data.toList.length = s.size := by simp
  unfold textL vat
  rw [hl]
  have e : dr s 0 = s.data.toList := rfl
  rw [e]
  cases h : valL (4 * s.size + 8) s.data.toList with
  | none => rfl
  | some x =>
    simp only [Option.map_some, Nat.zero_add]
    unfold dr
    by_cases hx : x.1 + blN (s.data.toList.drop x.1) = s.size
    · rw [if_pos hx]; simp [hx]
    · rw [if_neg hx]; simp [hx]

set_option maxRecDepth 100000 in
set_option maxHeartbeats 4000000 in
theorem text_any (s : ByteArray) (hs : s.size ≤ 9223372036854774000) (w : World) :
    Calls Try.prog 17 #[.string s] w (TP w (textL s.data.toList).isSome) := by
  have hv := value_any s hs
  rw [textL_vat]
  cases hx : vat (valL (4 * s.size + 8)) s 0 with
  | none =>
    rw [hx] at hv
    clear hx
    go_enter Try.func17, Try.ntmps17
    go_wp2_with (go_at_call 25; refine (hv _).mono ?_; rintro e w1 ⟨m, ok, d, rfl, ⟨rfl, rfl⟩, hb1⟩; simp only [RV]; have HR1 := Lib.hid ((R3.new w 0 0 false 24).bel hb1 (by simp)); obtain ⟨fsz, ⟨f0, f1, f2⟩, g0, g1, g2⟩ := HR1.out; have HW := Lib.hid (((Bel.of (by (repeat' (first | (with_reducible exact Below.refl _ _) | (with_reducible refine Below.trans ?_ (below_drewN _ _ _)) | (with_reducible refine Below.alloc ?_ ?_ _) | (with_reducible refine Below.setCell ?_ ?_ _) | (with_reducible refine Below.drew ?_) | go_size))) : Bel w.heap.size w (w.alloc (.cells #[.int .i64 0, .bool false, .int .i64 0] 24)))).trans (hb1.mono (by simp))); clear hb1)
    refine bodyPost_ret (v := RV m false 0) (by simp [results, Try.results17, go_sem, RV, f0, f1, f2, World.cell?_alloc_past, fsz]) rfl ?_
    exact ⟨m, 0, rfl, by (repeat' (first | (with_reducible exact HW.out) | (with_reducible exact HB5.out) | (with_reducible refine Bel.setCell ?_ (by first | exact Nat.le_refl _ | (simp; omega) | omega) _) | (with_reducible refine Bel.alloc ?_ (by first | exact Nat.le_refl _ | (simp; omega) | omega) _) | (with_reducible refine Bel.drew ?_) | (with_reducible refine Bel.drewN ?_ _)))⟩
  | some x =>
    obtain ⟨q, d⟩ := x
    rw [hx] at hv
    have hqb := (vat_bd (valL_bd _) (by omega) hx).2
    have hpb := blN_bd s q hqb
    generalize hp : q + blN (dr s q) = p at hpb
    have hbl := fun w => bl_call s q p w hs hqb hp
    clear hx
    simp only [hp]
    clear hp
    go_enter Try.func17, Try.ntmps17
    go_wp2_with (first
      | (go_at_call 25; refine (hv _).mono ?_; rintro e w1 ⟨m, ok, d, rfl, ⟨rfl, rfl, rfl⟩, hb1⟩; simp only [RV]; have HR1 := Lib.hid ((R3.new w 0 0 false 24).bel hb1 (by simp)); obtain ⟨fsz, ⟨f0, f1, f2⟩, g0, g1, g2⟩ := HR1.out; have HW := Lib.hid (((Bel.of (by (repeat' (first | (with_reducible exact Below.refl _ _) | (with_reducible refine Below.trans ?_ (below_drewN _ _ _)) | (with_reducible refine Below.alloc ?_ ?_ _) | (with_reducible refine Below.setCell ?_ ?_ _) | (with_reducible refine Below.drew ?_) | go_size))) : Bel w.heap.size w (w.alloc (.cells #[.int .i64 0, .bool false, .int .i64 0] 24)))).trans (hb1.mono (by simp))); clear hb1)
      | (go_at_call 26; refine (hbl _).mono ?_; rintro e w' ⟨rfl, rfl⟩))
    have hpp : ((p : Int) == (s.size : Int)) = decide (p = s.size) := by rw [Bool.eq_iff_iff]; simp; omega
    have HPP := Lib.hid hpp; clear hpp
    refine bodyPost_ret (v := RV p (decide (p = s.size)) d) (by simp [results, Try.results17, go_sem, RV, f0, f1, f2, World.cell?_alloc_past, fsz, HPP.out]) rfl ?_
    exact ⟨p, d, rfl, by (repeat' (first | (with_reducible exact HW.out) | (with_reducible exact HB5.out) | (with_reducible refine Bel.setCell ?_ (by first | exact Nat.le_refl _ | (simp; omega) | omega) _) | (with_reducible refine Bel.alloc ?_ (by first | exact Nat.le_refl _ | (simp; omega) | omega) _) | (with_reducible refine Bel.drew ?_) | (with_reducible refine Bel.drewN ?_ _)))⟩

end Go.Proofs.Ytppeahlnpidheaa
