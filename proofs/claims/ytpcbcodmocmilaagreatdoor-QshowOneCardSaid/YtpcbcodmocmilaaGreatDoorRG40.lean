/- RG40: Ig, RowA, RowH joined. -/
import Derived.ProofKit
import Derived.OpenShut
import Derived.ShutString
import Derived.ChangeSame
import Derived.Lay
import Derived.LaidMore
import Derived.Stop.Joined
import Derived.Stop.LaidErr
import Derived.Test.YtpcbcodmocmilaaGreatDoorRG31
import Derived.Test.YtpcbcodmocmilaaGreatDoorRG36
import Derived.Test.YtpcbcodmocmilaaGreatDoorRIe
import Derived.Test.YtpcbcodmocmilaaGreatDoorRA0
import Derived.Test.YtpcbcodmocmilaaGreatDoorRows
import Derived.Test.YtpcbcodmocmilaaGreatDoorRG28
namespace Go.Proofs.YtpcbcodmocmilaaGreatDoor
open Go.RowKit
/- law18: QshowOne (printed by gen_ig.py). -/
section
open Go.RowKit

theorem samet {K K' : Nat → Prop} {m m' : Nat} {p q : PathT} {A B : Option Addr} {c r : Nat} {x y : List (List Value)} (w : World) (h1 : SegsC K m w A x p.segs) (h2 : SegsC K' m' w B y q.segs) (h3 : p.segs.length ≤ c ∧ c ≤ 9223372036854775807) (h4 : q.segs.length ≤ r ∧ r ≤ 9223372036854775807) {b : Bool} (hb : b = true ↔ p = q) : Calls Tryz.prog 19 #[.agg #[.bool p.abs, .slice A p.segs.length c], .agg #[.bool q.abs, .slice B q.segs.length r]] w fun e w' => e = .returned (.bool b) ∧ Bel w.heap.size w w' :=
  ans_is hb (same_tells p q _ _ (h1.row h3) (h2.row h4))

set_option maxRecDepth 100000 in
set_option maxHeartbeats 2000000 in
theorem qone_long1 (s t : ByteArray) (w : World) (ht : Tab w) (h1 : 300 < s.size) : Calls Tryz.prog 6 #[.string s, .string t] w fun e w' => e = .returned (.bool true) ∧ Bel w.heap.size w w' := by
  have M := Lib.hid (Own.start [] w (fun _ => True) fun _ _ => trivial)
  have HT := Lib.hid ht
  clear ht
  have h1i : (300 : Int) < (s.size : Int) := by omega
  go_enter Tryz.func6, Tryz.ntmps6
  go_wp2_with (go_at_call 16; (with_reducible refine (awake18 _ (HT.out.bel M.out.bel0 (Nat.le_refl _))).mono ?_); rintro e w' ⟨rfl, hb⟩; replace M := Lib.hid (M.out.bel hb); clear hb)
  go_ret
  exact ⟨rfl, M.out.bel0⟩
set_option maxRecDepth 100000 in
set_option maxHeartbeats 2000000 in
theorem qone_long2 (s t : ByteArray) (w : World) (ht : Tab w) (h1 : s.size ≤ 300) (h2 : 300 < t.size) : Calls Tryz.prog 6 #[.string s, .string t] w fun e w' => e = .returned (.bool true) ∧ Bel w.heap.size w w' := by
  have M := Lib.hid (Own.start [] w (fun _ => True) fun _ _ => trivial)
  have HT := Lib.hid ht
  clear ht
  have h2i : (300 : Int) < (t.size : Int) := by omega
  go_enter Tryz.func6, Tryz.ntmps6
  go_wp2_with (go_at_call 16; (with_reducible refine (awake18 _ (HT.out.bel M.out.bel0 (Nat.le_refl _))).mono ?_); rintro e w' ⟨rfl, hb⟩; replace M := Lib.hid (M.out.bel hb); clear hb)
  go_ret
  exact ⟨rfl, M.out.bel0⟩
set_option maxRecDepth 100000 in
set_option maxHeartbeats 2000000 in
theorem qone_err1 (s t : ByteArray) (w : World) (ht : Tab w) (h1 : s.size ≤ 300) (h2 : t.size ≤ 300) (x a : Int) (hp : parseT true s.data.toList = .error (x, a)) (r : Except (Int × Int) PathT) (hq : parseT true t.data.toList = r) : Calls Tryz.prog 6 #[.string s, .string t] w fun e w' => e = .returned (.bool true) ∧ Bel w.heap.size w w' := by
  have M := Lib.hid (Own.start [] w (fun _ => True) fun _ _ => trivial)
  have HT := Lib.hid ht
  clear ht
  have hx : (x != 0) = true := by simpa using err_ne hp
  have HP := Lib.hid hp
  clear hp
  cases r with
  | error y =>
    obtain ⟨y, b⟩ := y
    have HQ := Lib.hid hq
    clear hq
    go_enter Tryz.func6, Tryz.ntmps6
    go_wp2_with (first | (go_at_call 16; (with_reducible refine (awake18 _ (HT.out.bel M.out.bel0 (Nat.le_refl _))).mono ?_); rintro e w' ⟨rfl, hb⟩; replace M := Lib.hid (M.out.bel hb); clear hb) | ((with_reducible refine g_al 37 5 ?_); refine l_al F_Path M.out ?_; clear M; intro g5 w' hg5 M) | ((with_reducible refine g_al 31 6 ?_); refine l_al F_Flq M.out ?_; clear M; intro g6 w' hg6 M) | ((with_reducible refine g_al 37 7 ?_); refine l_al F_Path M.out ?_; clear M; intro g7 w' hg7 M) | ((with_reducible refine g_al 31 8 ?_); refine l_al F_Flq M.out ?_; clear M; intro g8 w' hg8 M) | ((with_reducible refine g_st 37 ?_); refine l_st F_Path rfl rfl M.out (by repeat constructor) (by exact rfl) (by exact rfl) (by exact rfl) ?_; clear M; intro w' M) | ((with_reducible refine g_st 31 ?_); refine l_st F_Flq rfl rfl M.out (by repeat constructor) (by exact rfl) (by exact rfl) (by exact rfl) ?_; clear M; intro w' M) | ((with_reducible refine g_ld 29 ?_); refine l_ld1 O_ern rfl M.out (by repeat constructor) (by exact rfl) ?_) | ((with_reducible refine q_gl 29 ?_); refine q_ld1g O_ern rfl rfl M.out (by repeat constructor) (by exact rfl) ?_) | (go_at_call 17; (with_reducible refine (parsec_err (s := s) _ (by omega) HP.out).mono ?_); rintro e w' ⟨rfl, hb⟩; replace M := Lib.hid (M.out.bel hb); clear hb) | (go_at_call 17; (with_reducible refine (parsec_err (s := t) _ (by omega) HQ.out).mono ?_); rintro e w' ⟨rfl, hb⟩; replace M := Lib.hid (M.out.bel hb); clear hb))
    go_ret
    exact ⟨rfl, M.out.bel0⟩
  | ok q =>
    have HQ := Lib.hid hq
    clear hq
    go_enter Tryz.func6, Tryz.ntmps6
    go_wp2_with (first | (go_at_call 16; (with_reducible refine (awake18 _ (HT.out.bel M.out.bel0 (Nat.le_refl _))).mono ?_); rintro e w' ⟨rfl, hb⟩; replace M := Lib.hid (M.out.bel hb); clear hb) | ((with_reducible refine g_al 37 5 ?_); refine l_al F_Path M.out ?_; clear M; intro g5 w' hg5 M) | ((with_reducible refine g_al 31 6 ?_); refine l_al F_Flq M.out ?_; clear M; intro g6 w' hg6 M) | ((with_reducible refine g_al 37 7 ?_); refine l_al F_Path M.out ?_; clear M; intro g7 w' hg7 M) | ((with_reducible refine g_al 31 8 ?_); refine l_al F_Flq M.out ?_; clear M; intro g8 w' hg8 M) | ((with_reducible refine g_st 37 ?_); refine l_st F_Path rfl rfl M.out (by repeat constructor) (by exact rfl) (by exact rfl) (by exact rfl) ?_; clear M; intro w' M) | ((with_reducible refine g_st 31 ?_); refine l_st F_Flq rfl rfl M.out (by repeat constructor) (by exact rfl) (by exact rfl) (by exact rfl) ?_; clear M; intro w' M) | ((with_reducible refine g_ld 29 ?_); refine l_ld1 O_ern rfl M.out (by repeat constructor) (by exact rfl) ?_) | ((with_reducible refine q_gl 29 ?_); refine q_ld1g O_ern rfl rfl M.out (by repeat constructor) (by exact rfl) ?_) | (go_at_call 17; (with_reducible refine (parsec_err (s := s) _ (by omega) HP.out).mono ?_); rintro e w' ⟨rfl, hb⟩; replace M := Lib.hid (M.out.bel hb); clear hb) | (go_at_call 17; (with_reducible refine (parsec_ok (s := t) _ (by omega) HQ.out).mono ?_); rintro e w' ⟨m2, A2, c2, css2, rfl, hc, hsg, hb⟩; have HC2 := Lib.hid hc; have Mn := M.out.addK (G := fun K y => SegsC K m2 y A2 css2 q.segs) (fun h hk => SegsC.keep h hk) hb hsg; replace M := Lib.hid Mn; clear Mn hb hsg hc))
    go_ret
    exact ⟨rfl, M.out.bel0⟩
set_option maxRecDepth 100000 in
set_option maxHeartbeats 2000000 in
theorem qone_err2 (s t : ByteArray) (w : World) (ht : Tab w) (h1 : s.size ≤ 300) (h2 : t.size ≤ 300) (p : PathT) (hp : parseT true s.data.toList = .ok p) (x a : Int) (hq : parseT true t.data.toList = .error (x, a)) : Calls Tryz.prog 6 #[.string s, .string t] w fun e w' => e = .returned (.bool true) ∧ Bel w.heap.size w w' := by
  have M := Lib.hid (Own.start [] w (fun _ => True) fun _ _ => trivial)
  have HT := Lib.hid ht
  clear ht
  have hx : (x != 0) = true := by simpa using err_ne hq
  have HP := Lib.hid hp
  have HQ := Lib.hid hq
  clear hp hq
  go_enter Tryz.func6, Tryz.ntmps6
  go_wp2_with (first | (go_at_call 16; (with_reducible refine (awake18 _ (HT.out.bel M.out.bel0 (Nat.le_refl _))).mono ?_); rintro e w' ⟨rfl, hb⟩; replace M := Lib.hid (M.out.bel hb); clear hb) | ((with_reducible refine g_al 37 5 ?_); refine l_al F_Path M.out ?_; clear M; intro g5 w' hg5 M) | ((with_reducible refine g_al 31 6 ?_); refine l_al F_Flq M.out ?_; clear M; intro g6 w' hg6 M) | ((with_reducible refine g_al 37 7 ?_); refine l_al F_Path M.out ?_; clear M; intro g7 w' hg7 M) | ((with_reducible refine g_al 31 8 ?_); refine l_al F_Flq M.out ?_; clear M; intro g8 w' hg8 M) | ((with_reducible refine g_st 37 ?_); refine l_st F_Path rfl rfl M.out (by repeat constructor) (by exact rfl) (by exact rfl) (by exact rfl) ?_; clear M; intro w' M) | ((with_reducible refine g_st 31 ?_); refine l_st F_Flq rfl rfl M.out (by repeat constructor) (by exact rfl) (by exact rfl) (by exact rfl) ?_; clear M; intro w' M) | ((with_reducible refine g_ld 29 ?_); refine l_ld1 O_ern rfl M.out (by repeat constructor) (by exact rfl) ?_) | ((with_reducible refine q_gl 29 ?_); refine q_ld1g O_ern rfl rfl M.out (by repeat constructor) (by exact rfl) ?_) | (go_at_call 17; (with_reducible refine (parsec_ok (s := s) _ (by omega) HP.out).mono ?_); rintro e w' ⟨m1, A1, c1, css1, rfl, hc, hsg, hb⟩; have HC1 := Lib.hid hc; have Mn := M.out.addK (G := fun K y => SegsC K m1 y A1 css1 p.segs) (fun h hk => SegsC.keep h hk) hb hsg; replace M := Lib.hid Mn; clear Mn hb hsg hc) | (go_at_call 17; (with_reducible refine (parsec_err (s := t) _ (by omega) HQ.out).mono ?_); rintro e w' ⟨rfl, hb⟩; replace M := Lib.hid (M.out.bel hb); clear hb))
  go_ret
  exact ⟨rfl, M.out.bel0⟩
set_option maxRecDepth 100000 in
set_option maxHeartbeats 2000000 in
theorem qone_ok (s t : ByteArray) (w : World) (ht : Tab w) (h1 : s.size ≤ 300) (h2 : t.size ≤ 300) (p q : PathT) (hp : parseT true s.data.toList = .ok p) (hq : parseT true t.data.toList = .ok q) : Calls Tryz.prog 6 #[.string s, .string t] w fun e w' => e = .returned (.bool true) ∧ Bel w.heap.size w w' := by
  have M := Lib.hid (Own.start [] w (fun _ => True) fun _ _ => trivial)
  have HT := Lib.hid ht
  clear ht
  obtain ⟨a1, a2, a3⟩ := parse_wf800 hp (by rw [len_toList]; omega)
  obtain ⟨b1, b2, b3⟩ := parse_wf800 hq (by rw [len_toList]; omega)
  have hlA := show_le a1 a2
  have hlB := show_le b1 b2
  have hSA := fun (m1 c1 : Nat) (A1 : Option Addr) (css1 : List (List Value)) (W : World) (hv : SegsC (Fr w) m1 W A1 css1 p.segs) (hc : p.segs.length ≤ c1 ∧ c1 ≤ 9223372036854775807) (hT : Tab W) => showc_any (N := 1600) (by omega) p A1 c1 m1 css1 w W a1 hv hc hT (by omega)
  have hSB := fun (m1 c1 : Nat) (A1 : Option Addr) (css1 : List (List Value)) (W : World) (hv : SegsC (Fr w) m1 W A1 css1 q.segs) (hc : q.segs.length ≤ c1 ∧ c1 ≤ 9223372036854775807) (hT : Tab W) => showc_any (N := 1600) (by omega) q A1 c1 m1 css1 w W b1 hv hc hT (by omega)
  obtain ⟨b, hb⟩ := ans_b (p = q)
  have hxy : ((bs (showT p)).toList == (bs (showT q)).toList) = b := by
    by_cases h : p = q
    · rw [hb.2 h, h]; simp
    · have e : b = false := by cases b with
        | false => rfl
        | true => exact absurd (hb.1 rfl) h
      rw [e]
      exact s_eq fun e => h (show_inj hp hq e)
  obtain ⟨X, hX⟩ : ∃ X, showT p = X := ⟨_, rfl⟩
  obtain ⟨Y, hY⟩ : ∃ Y, showT q = Y := ⟨_, rfl⟩
  rw [hX] at hSA hlA hxy
  rw [hY] at hSB hlB hxy
  have HPA := Lib.hid hSA
  have HPB := Lib.hid hSB
  have HP := Lib.hid hp
  have HQ := Lib.hid hq
  have HEQ := Lib.hid hb
  have HXY := Lib.hid hxy
  clear hp hq hSA hSB hX hY hb hxy a1 a2 a3 b1 b2 b3
  go_enter Tryz.func6, Tryz.ntmps6
  go_upto_region 7 with (first | (go_at_call 16; (with_reducible refine (awake18 _ (HT.out.bel M.out.bel0 (Nat.le_refl _))).mono ?_); rintro e w' ⟨rfl, hb⟩; replace M := Lib.hid (M.out.bel hb); clear hb) | ((with_reducible refine g_al 37 5 ?_); refine l_al F_Path M.out ?_; clear M; intro g5 w' hg5 M) | ((with_reducible refine g_al 31 6 ?_); refine l_al F_Flq M.out ?_; clear M; intro g6 w' hg6 M) | ((with_reducible refine g_al 37 7 ?_); refine l_al F_Path M.out ?_; clear M; intro g7 w' hg7 M) | ((with_reducible refine g_al 31 8 ?_); refine l_al F_Flq M.out ?_; clear M; intro g8 w' hg8 M) | ((with_reducible refine g_st 37 ?_); refine l_st F_Path rfl rfl M.out (by repeat constructor) (by exact rfl) (by exact rfl) (by exact rfl) ?_; clear M; intro w' M) | ((with_reducible refine g_st 31 ?_); refine l_st F_Flq rfl rfl M.out (by repeat constructor) (by exact rfl) (by exact rfl) (by exact rfl) ?_; clear M; intro w' M) | ((with_reducible refine g_ld 29 ?_); refine l_ld1 O_ern rfl M.out (by repeat constructor) (by exact rfl) ?_) | ((with_reducible refine q_gl 29 ?_); refine q_ld1g O_ern rfl rfl M.out (by repeat constructor) (by exact rfl) ?_) | (go_at_call 17; (with_reducible refine (parsec_ok (s := s) _ (by omega) HP.out).mono ?_); rintro e w' ⟨m1, A1, c1, css1, rfl, hc, hsg, hb⟩; have HC1 := Lib.hid hc; have Mn := M.out.addK (G := fun K y => SegsC K m1 y A1 css1 p.segs) (fun h hk => SegsC.keep h hk) hb hsg; replace M := Lib.hid Mn; clear Mn hb hsg hc) | (go_at_call 17; (with_reducible refine (parsec_ok (s := t) _ (by omega) HQ.out).mono ?_); rintro e w' ⟨m2, A2, c2, css2, rfl, hc, hsg, hb⟩; have HC2 := Lib.hid hc; have Mn := M.out.addK (G := fun K y => SegsC K m2 y A2 css2 q.segs) (fun h hk => SegsC.keep h hk) hb hsg; replace M := Lib.hid Mn; clear Mn hb hsg hc))
  replace M := Lib.hid (M.out.freeze.freeze.freeze.freeze.imp (J' := fun y => (SegsC (Fr w) m1 y A1 css1 p.segs ∧ SegsC (Fr w) m2 y A2 css2 q.segs) ∧ Blk y g5 37 #[.bool p.abs, .slice A1 p.segs.length c1] ∧ Blk y g7 37 #[.bool q.abs, .slice A2 q.segs.length c2]) fun y h => ⟨⟨h.1.1.1.1.1.2, h.1.1.1.1.2⟩, h.2, h.1.1.2⟩)
  have HSA := Lib.hid (fun (W : World) (hJ : (fun y => (SegsC (Fr w) m1 y A1 css1 p.segs ∧ SegsC (Fr w) m2 y A2 css2 q.segs) ∧ Blk y g5 37 #[.bool p.abs, .slice A1 p.segs.length c1] ∧ Blk y g7 37 #[.bool q.abs, .slice A2 q.segs.length c2]) W) (hT : Tab W) => HPA.out m1 c1 A1 css1 W hJ.1.1 HC1.out hT)
  have HSB := Lib.hid (fun (W : World) (hJ : (fun y => (SegsC (Fr w) m1 y A1 css1 p.segs ∧ SegsC (Fr w) m2 y A2 css2 q.segs) ∧ Blk y g5 37 #[.bool p.abs, .slice A1 p.segs.length c1] ∧ Blk y g7 37 #[.bool q.abs, .slice A2 q.segs.length c2]) W) (hT : Tab W) => HPB.out m2 c2 A2 css2 W hJ.1.2 HC2.out hT)
  replace M := Lib.hid M.out.drew
  refine tb (fun y => (SegsC (Fr w) m1 y A1 css1 p.segs ∧ SegsC (Fr w) m2 y A2 css2 q.segs) ∧ Blk y g5 37 #[.bool p.abs, .slice A1 p.segs.length c1] ∧ Blk y g7 37 #[.bool q.abs, .slice A2 q.segs.length c2]) M.out.now ?_
  refine tk 0 rfl M.out.now (y_ld F_Path _ g5 rfl _ _ (fun y h => h.2.1) rfl) ?_
  refine tk 2 rfl M.out.now (y_ld F_Path _ g7 rfl _ _ (fun y h => h.2.2) rfl) ?_
  refine tk 5 rfl M.out.now (y_ld F_Path _ g5 rfl _ _ (fun y h => h.2.1) rfl) ?_
  refine tk 6 rfl M.out.now (y_ld F_Path _ g7 rfl _ _ (fun y h => h.2.2) rfl) ?_
  refine tr [1] ?_
  refine rdy_call (HSA.out _ M.out.now (HT.out.bel M.out.bel0 (Nat.le_refl _))) (i := 1) (op := .call _) rfl (by go_simp) ?_ ?_
  · rintro e_ w' ⟨rfl, hb⟩; replace M := Lib.hid (M.out.bel hb); clear hb; refine ⟨_, rfl, ?_⟩; refine ⟨M.out.now, tn ?_⟩
    refine tr [3] ?_
    refine rdy_call (HSB.out _ M.out.now (HT.out.bel M.out.bel0 (Nat.le_refl _))) (i := 3) (op := .call _) rfl (by go_simp) ?_ ?_
    · rintro e_ w' ⟨rfl, hb⟩; replace M := Lib.hid (M.out.bel hb); clear hb; refine ⟨_, rfl, ?_⟩; refine ⟨M.out.now, tn ?_⟩
      refine tkp 4 rfl M.out.now ?_
      refine tr [7] ?_
      refine rdy_call (samet _ M.out.now.1.1 M.out.now.1.2 HC1.out HC2.out HEQ.out) (i := 7) (op := .call _) rfl (by go_simp) ?_ ?_
      · rintro e_ w' ⟨rfl, hb⟩; replace M := Lib.hid (M.out.bel hb); clear hb; refine ⟨_, rfl, ?_⟩; refine ⟨M.out.now, tn ?_⟩
        refine tkp 8 rfl M.out.now ?_
        refine tkp 9 rfl M.out.now ?_
        refine te ?_
        go_wp2
        go_ret
        exact ⟨by rw [HXY.out]; simp, M.out.bel0⟩
      exact .nil
    exact .nil
  exact .nil
theorem qshone_any (s t : ByteArray) (w : World) (ht : Tab w) (_ : s.size ≤ maxLen) (_ : t.size ≤ maxLen) : Calls Tryz.prog 6 #[.string s, .string t] w fun e w' => e = .returned (.bool true) ∧ Bel w.heap.size w w' := by
  by_cases h1 : s.size ≤ 300
  · by_cases h2 : t.size ≤ 300
    · cases hp : parseT true s.data.toList with
      | error x => exact qone_err1 s t w ht h1 h2 x.1 x.2 hp _ rfl
      | ok p =>
        cases hq : parseT true t.data.toList with
        | error x => exact qone_err2 s t w ht h1 h2 p hp x.1 x.2 hq
        | ok q => exact qone_ok s t w ht h1 h2 p q hp hq
    · exact qone_long2 s t w ht h1 (by omega)
  · exact qone_long1 s t w ht (by omega)


end
/- The row's last step where of the world behind the call 'Bel' is known. -/
section
open Go.RowKit Go.WideShapes Go.ChangeShapes

theorem Bel.frame {W W' : World} (h : Bel W.heap.size W W') (may : MemPlace → Prop) : W.keptBut W' may := by
  refine ⟨h.os, h.output, fun i hi => ?_⟩
  rw [h.block i hi]
  split <;> simp_all

section
variable {H : Type} {enc : TypeId × Value → H} {P : Program}
theorem post_of_bel {f : Func} {s : ChangeSpec} {apart fresh handsOn again : Bool} {W W' : World} {args : Array Value} {v : Value} {ds gs : List (DataW H)} {before pa pv : List MemPlace}
    (hW : DataW.Whole enc P f.params.toList s.vars apart W args.toList ds gs before)
    (hres : ∀ (b : Nat) (sp : Nat → Bool) (hd : Bool), DataW.TrodAll enc P W' b sp hd f.resultTypes.toList (v.resultList f.resultTypes.size) (s.fn H (ds ++ gs)).results [])
    (hargs : ∀ sp : Nat → Bool, (∀ p ∈ before, sp p.block = true) → DataW.TrodAll enc P W' 0 sp true f.params.toList args.toList (s.fn H (ds ++ gs)).args pa)
    (hvars : ∀ sp : Nat → Bool, (∀ p ∈ before, sp p.block = true) → DataW.TrodVars enc P W' sp s.vars (s.fn H (ds ++ gs)).vars pv)
    (hps : before = pa ++ pv) (hb : Bel W.heap.size W W')
    (hok : ∀ (j : Nat) (t : TypeId) (r : Value), f.resultTypes[j]? = some t → (v.resultList f.resultTypes.size)[j]? = some r → Value.okWide P W' .any 0 t r) :
    s.post enc P f apart fresh handsOn again W args v W' := by
  have hlt : ∀ p ∈ before, p.block < W.heap.size := fun p hp => hW.lt p hp
  have hold : ∀ p ∈ before, (fun b => decide (b < W.heap.size)) p.block = true := fun p hp => by simpa using hlt p hp
  refine ⟨ds, gs, before, [], pa, pv, hW, hres _ _ _, hargs _ hold, hvars _ hold, World.keptBut_mono (fun p hp => ⟨hp, ?_⟩) (hb.frame (· ∈ before)), fun _ => ?_⟩
  · rw [hps, List.mem_append] at hp
    exact Or.inr hp
  · obtain ⟨_, _, _, _, _, hz, hn⟩ := hW
    refine ⟨hok, _, _, ([] ++ pa) ++ pv, ⟨[] ++ pa, pv, trodAll_append (hargs _ (fun _ _ => rfl)) (hres _ _ _), hvars _ (fun _ _ => rfl), rfl, ?_, ?_⟩, ?_⟩
    · intro b off hp
      have hin : MemPlace.cell b off ∈ before := by rw [hps]; simpa using hp
      rw [hb.frozen (hlt _ hin)]
      exact hz b off hin
    · intro ha
      have := hn ha
      rw [hps] at this
      simpa using this
    · intro p hp _
      rw [hps]
      simpa using hp
end

theorem own : ownKnob Tryz.prog.godebug = none := by kernel_rfl

end
/- The rows' common part: the library's tables as they are laid (the heap laid by the kit's law). -/
section
open Go.ChangeShapes Go.WideShapes Go.ChangeAt Go.RowKit

def laid5 : List (String × DataW Unit) := [("math/bits.deBruijn32tab", Rows.laid_math_bits_deBruijn32tab), ("math/bits.deBruijn64tab", Rows.laid_math_bits_deBruijn64tab), ("internal/strconv.uint64pow10", Rows.laid_internal_strconv_uint64pow10), ("unicode/utf8.acceptRanges", Rows.laid_unicode_utf8_acceptRanges), ("unicode/utf8.first", Rows.laid_unicode_utf8_first)]
/-- The heap with the tables laid meets the condition. -/
theorem door_met (os : Os) (args : Array Value) : laidMetH Tryz.prog laid5 ((World.laidAll Tryz.prog os laid5).forCall (fun _ _ => 0) ⟨#[], args, []⟩).memory := by
  rw [MakeChecks.laidMetH_plain _ _ _ (by kernel_rfl)]
  exact laidMet_laidAll _ (by kernel_rfl) (by kernel_rfl)
theorem door_shaped (os : Os) : (World.laidAll Tryz.prog os laid5).Shaped Tryz.prog := World.shaped_of_ZipB (by kernel_rfl) (by kernel_rfl)
theorem tab_g : ∃ g, Tryz.prog.globalNamed "internal/strconv.uint64pow10" = some g ∧ (Tryz.prog.globals[g]?).map (·.type) = some 199 := ⟨3, by kernel_rfl, by kernel_rfl⟩
theorem tab_cells1 : Tryz.prog.cellsOf 193 = 1 := by kernel_rfl
theorem tab_cells20 : Tryz.prog.cellsOf 199 = 20 := by kernel_rfl
/-- What the condition gives the walk. -/
theorem tab_of_laid {W : World} (h : laidMetH Tryz.prog laid5 W) : Tab W := by
  rw [MakeChecks.laidMetH_plain _ _ _ (by kernel_rfl)] at h
  have h : laidMet Tryz.prog laid5 W := h
  obtain ⟨g, hg, hty⟩ := tab_g
  have h2 : laidMet Tryz.prog (("internal/strconv.uint64pow10", Lib.tabData .u64 Lib.pow10Tab) :: [("unicode/utf8.acceptRanges", Rows.laid_unicode_utf8_acceptRanges), ("unicode/utf8.first", Rows.laid_unicode_utf8_first)]) W := h.tail.tail
  exact Lib.tabIs_of_head hg hty Tryz.underlying199 Tryz.underlying193 tab_cells1 tab_cells20 h2

end

end Go.Proofs.YtpcbcodmocmilaaGreatDoor
