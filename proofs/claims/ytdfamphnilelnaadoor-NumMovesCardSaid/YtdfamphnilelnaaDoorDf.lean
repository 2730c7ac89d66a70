/- The law NumMinus: plain, and walked. -/
import Derived.Test.YtdfamphnilelnaaDoorAw
import Derived.Test.YtdfamphnilelnaaDoorDe
namespace Go.Proofs.YtdfamphnilelnaaDoor
open Go.RowKit

def minP (x : NP) : NP := ⟨true, x.w, x.f, x.e⟩
def negV (v : NV) : NV := if v.d = [] then v else ⟨!v.m, v.d, v.p⟩
theorem spl5_m (w f l : L8) : spl5 true w f l = (spl5 false w f l).map minP := by
  unfold spl5
  generalize (if hd l 43 || hd l 45 then l.drop 1 else l) = t
  by_cases h : t ≠ [] ∧ digN t = t.length
  · rw [if_pos h, if_pos h]; rfl
  · rw [if_neg h, if_neg h]; rfl
theorem spl4_m (w f l : L8) : spl4 true w f l = (spl4 false w f l).map minP := by
  unfold spl4; split
  · rfl
  · split
    · exact spl5_m _ _ _
    · rfl
theorem spl3_m (w l : L8) : spl3 true w l = (spl3 false w l).map minP := by
  unfold spl3; split
  · split
    · rfl
    · exact spl4_m _ _ _
  · exact spl4_m _ _ _
theorem spl2_m (l : L8) : spl2 true l = (spl2 false l).map minP := by
  unfold spl2; split
  · rfl
  · exact spl3_m _ _
theorem spl2_f {l : L8} {x : NP} (h : spl2 false l = some x) : x.m = false := by
  have h5 : ∀ {w f l}, spl5 false w f l = some x → x.m = false := by
    intro w f l h
    have key : ∀ {c : Prop} [Decidable c] {y : NP}, (if c then some y else none) = some x → y = x := by
      intro c _ y h; split at h
      · cases h; rfl
      · cases h
    rw [← key h]
  have h4 : ∀ {w f l}, spl4 false w f l = some x → x.m = false := by
    intro w f l h; unfold spl4 at h; split at h
    · cases h; rfl
    · split at h
      · exact h5 h
      · cases h
  have h3 : ∀ {w l}, spl3 false w l = some x → x.m = false := by
    intro w l h; unfold spl3 at h; split at h
    · split at h
      · cases h
      · exact h4 h
    · exact h4 h
  unfold spl2 at h; split at h
  · cases h
  · exact h3 h
theorem split_minus {l : L8} {x : NP} (h45 : hd l 45 = false) (h : splitL l = some x) : splitL (45 :: l) = some (minP x) ∧ x.m = false := by
  have e : splitL l = spl2 false l := by unfold splitL; rw [h45]; rfl
  have e2 : splitL (45 :: l) = spl2 true l := rfl
  rw [e] at h
  refine ⟨?_, spl2_f h⟩
  rw [e2, spl2_m, h]; rfl
theorem trim_neg (v : NV) (h : v.m = false) : trimV ⟨true, v.d, v.p⟩ = negV (trimV v) := by
  unfold trimV negV
  by_cases hd : tB (tF v.d) = []
  · simp only [hd]; rfl
  · simp only [hd, if_false, h]; rfl
theorem read_neg (x : NP) (h : x.m = false) : readV (minP x) = negV (readV x) := by
  unfold readV minP
  exact trim_neg ⟨x.m, x.w ++ x.f, (x.w.length : Int) + powI x.e⟩ h
theorem side_neg (v : NV) : sideV (negV v) = -(sideV v) := by
  unfold negV sideV
  by_cases hd : v.d = []
  · simp [hd]
  · simp only [hd, if_false]; cases v.m <;> rfl
theorem key_neg (v : NV) : (negV v).p = v.p ∧ (negV v).d = v.d := by
  unfold negV; split
  · exact ⟨rfl, rfl⟩
  · exact ⟨rfl, rfl⟩
theorem cmp_neg (a b : NV) : cmpVV (negV a) (negV b) = -(cmpVV a b) := by
  have hz : sizeV (negV a) (negV b) = sizeV a b := by
    unfold sizeV; rw [(key_neg a).1, (key_neg a).2, (key_neg b).1, (key_neg b).2]
  unfold cmpVV
  rw [side_neg, side_neg, hz]
  have ha := sideV_bd a; have hb := sideV_bd b
  generalize sideV a = x at *
  generalize sideV b = y at *
  by_cases h1 : x < y
  · rw [if_neg (by omega), if_pos (by omega), if_pos h1]; rfl
  · by_cases h2 : y < x
    · rw [if_pos (by omega), if_neg h1, if_pos h2]
    · rw [if_neg (by omega), if_neg (by omega), if_neg h1, if_neg h2, Int.neg_mul]
theorem wn_neg (n : Int) : wnV (-n) = negV (wnV n) := by
  by_cases h : n = 0
  · subst h; rw [show (-0 : Int) = 0 from rfl, wnV_zero]; rfl
  · obtain ⟨e1, hb1⟩ := wnV_eq n h
    obtain ⟨e2, _⟩ := wnV_eq (-n) (by omega)
    have en : natD (-n) = natD n := by unfold natD; rw [Int.natAbs_neg]
    rw [e2, e1, en]
    unfold negV
    rw [if_neg hb1]
    congr 1
    by_cases hn : n < 0
    · rw [decide_eq_false (by omega), decide_eq_true hn]; rfl
    · rw [decide_eq_true (by omega), decide_eq_false hn]; rfl
theorem cap_neg (y : Int) : capI (-y) = (-(capI y).1, (capI y).2) := by
  unfold capI
  by_cases h : 9007199254740991 < y ∨ y < -9007199254740991
  · rw [if_pos h, if_pos (by omega)]; rfl
  · rw [if_neg h, if_neg (by omega)]
theorem whole_neg (v : NV) : wholeV (negV v) = (-(wholeV v).1, (wholeV v).2) := by
  unfold wholeV
  rw [(key_neg v).1, (key_neg v).2]
  by_cases hd : v.d = []
  · rw [if_pos hd, if_pos hd]; rfl
  · rw [if_neg hd, if_neg hd]
    split
    · rfl
    · have e : (negV v).m = !v.m := by unfold negV; rw [if_neg hd]
      rw [e]
      cases v.m
      · exact cap_neg _
      · have := cap_neg (-(wl v.d v.p.toNat))
        rw [Int.neg_neg] at this
        exact this
theorem wholeV_bd (v : NV) : -9007199254740991 ≤ (wholeV v).1 ∧ (wholeV v).1 ≤ 9007199254740991 := by
  have hc : ∀ y, -9007199254740991 ≤ (capI y).1 ∧ (capI y).1 ≤ 9007199254740991 := fun y => by
    unfold capI; split <;> simp <;> omega
  unfold wholeV
  split
  · simp
  · split
    · simp
    · exact hc _
/-- All of it. -/
theorem minus_plain (l : L8) (n : Int) (h45 : hd l 45 = false) (h : (splitL l).isSome = true) :
    (splitL (45 :: l)).isSome = true ∧ cmpL (45 :: l) (-n) = -(cmpL l n) ∧ wholeL (45 :: l) = (-(wholeL l).1, (wholeL l).2) ∧ -9007199254740991 ≤ (wholeL l).1 ∧ (wholeL l).1 ≤ 9007199254740991 := by
  cases hx : splitL l with
  | none => rw [hx] at h; cases h
  | some x =>
    obtain ⟨e1, e2⟩ := split_minus h45 hx
    unfold cmpL wholeL
    simp only [e1, hx, read_neg x e2]
    exact ⟨rfl, by rw [wn_neg, cmp_neg], whole_neg _, wholeV_bd _⟩

def M1 (s : ByteArray) (n : Int) : Prop := ∀ w : World, Tab w → Calls Tryd.prog 8 #[.string s, .int .i64 n] w fun e w' => e = .returned (.bool true) ∧ Bel w.heap.size w w'
theorem cons_str (s : ByteArray) : ((⟨#[45]⟩ : ByteArray) ++ s).data.toList = 45 :: s.data.toList := by simp

set_option maxRecDepth 100000 in
set_option maxHeartbeats 2000000 in
theorem minus_out (s : ByteArray) (n : Int) (hs : s.size ≤ 9223372036854775807) (h : 200 < s.size ∨ n < -9007199254740991 ∨ 9007199254740991 < n) : M1 s n := by
  intro w _
  have haw := awake_any
  have HB := Lib.hid (Bel.refl w.heap.size w)
  by_cases h1 : 200 < s.size
  · go_enter Tryd.func8, Tryd.ntmps8
    go_wp2_with (go_at_call 9; refine (haw _).mono ?_; rintro e w1 ⟨rfl, hb⟩; have HB := Lib.hid (HB.out.next hb); clear hb)
    go_ret
    exact ⟨rfl, HB.out⟩
  · by_cases h2 : n < -9007199254740991
    · go_enter Tryd.func8, Tryd.ntmps8
      go_wp2_with (go_at_call 9; refine (haw _).mono ?_; rintro e w1 ⟨rfl, hb⟩; have HB := Lib.hid (HB.out.next hb); clear hb)
      go_ret
      exact ⟨rfl, HB.out⟩
    · have h3 : 9007199254740991 < n := by omega
      go_enter Tryd.func8, Tryd.ntmps8
      go_wp2_with (go_at_call 9; refine (haw _).mono ?_; rintro e w1 ⟨rfl, hb⟩; have HB := Lib.hid (HB.out.next hb); clear hb)
      go_ret
      exact ⟨rfl, HB.out⟩

set_option maxRecDepth 100000 in
set_option maxHeartbeats 2000000 in
theorem minus_in (s : ByteArray) (n : Int) (h0 : s.size ≤ 200) (n0 : -9007199254740991 ≤ n) (n1 : n ≤ 9007199254740991) : M1 s n := by
  intro w ht
  have haw := awake_any
  have HT := Lib.hid ht; clear ht
  have HB := Lib.hid (Bel.refl w.heap.size w)
  have hi := fun w => is_any s w (by omega)
  cases hp : (splitL s.data.toList).isSome with
  | false =>
    rw [hp] at hi
    clear hp
    go_enter Tryd.func8, Tryd.ntmps8
    go_wp2_with (first
      | (go_at_call 9; refine (haw _).mono ?_; rintro e w1 ⟨rfl, hb⟩; have HB := Lib.hid (HB.out.next hb); clear hb)
      | (go_at_call 14; refine (hi _).mono ?_; rintro e w1 ⟨rfl, hb⟩; have HB := Lib.hid (HB.out.next hb); clear hb))
    go_ret
    exact ⟨rfl, HB.out⟩
  | true =>
    rw [hp] at hi
    have hpos : 0 < s.size := by
      rcases Nat.eq_zero_or_pos s.size with e | e
      · have : s.data.toList = [] := List.eq_nil_of_length_eq_zero (by simpa using e)
        rw [this] at hp; exact absurd hp (by decide)
      · exact e
    have h45 := hd_i' (s := s) (p := 0) (c := 45) (n := 45) hpos rfl
    have HD := Lib.hid (show hd (dr s 0) 45 = hd s.data.toList 45 from rfl)
    cases hh : hd (dr s 0) 45 with
    | true =>
      rw [hh] at h45
      clear hp hh
      go_enter Tryd.func8, Tryd.ntmps8
      go_wp2_with (first
        | (go_at_call 9; refine (haw _).mono ?_; rintro e w1 ⟨rfl, hb⟩; have HB := Lib.hid (HB.out.next hb); clear hb)
        | (go_at_call 14; refine (hi _).mono ?_; rintro e w1 ⟨rfl, hb⟩; have HB := Lib.hid (HB.out.next hb); clear hb))
      go_ret
      exact ⟨rfl, HB.out⟩
    | false =>
      rw [hh] at h45
      obtain ⟨p1, p2, p3, p4, p5⟩ := minus_plain s.data.toList n (HD.out.symm.trans hh) hp
      have hw := fun w => whole_any s w (by omega)
      have hc := fun w h => cmp_any s n w (by omega) (by omega) h (by omega)
      obtain ⟨t, ht⟩ : ∃ t : ByteArray, (⟨#[45]⟩ : ByteArray) ++ s = t := ⟨_, rfl⟩
      have htl : t.data.toList = 45 :: s.data.toList := by rw [← ht]; exact cons_str s
      have hts : t.size ≤ 300 := by have := len_toList t; rw [htl] at this; simp at this; omega
      have hi2 := fun w => is_any t w (by omega)
      have hw2 := fun w => whole_any t w (by omega)
      have hc2 := fun w h => cmp_any t (-n) w (by omega) (by omega) h (by omega)
      simp only [WH, CH, htl, p1, p2, p3] at hw hc hi2 hw2 hc2
      have hcb := cmpL_bd s.data.toList n
      generalize cmpL s.data.toList n = z at *
      generalize wholeL s.data.toList = r at *
      obtain ⟨a, ok⟩ := r
      simp only at hw hw2 p4 p5
      have hcat : ¬ 9223372036854775807 < 1 + s.size := by omega
      obtain ⟨hcb0, hcb1⟩ := hcb
      clear hp hh p1 p2 p3 htl
      cases ok
      all_goals
        go_enter Tryd.func8, Tryd.ntmps8
        go_wp2_with (first
          | (go_at_call 9; refine (haw _).mono ?_; rintro e w1 ⟨rfl, hb⟩; have HB := Lib.hid (HB.out.next hb); clear hb)
          | (go_at_call_of 14 (Value.string s); refine (hi _).mono ?_; rintro e w1 ⟨rfl, hb⟩; have HB := Lib.hid (HB.out.next hb); clear hb)
          | (go_at_call_of 14 (Value.string t); refine (hi2 _).mono ?_; rintro e w1 ⟨rfl, hb⟩; have HB := Lib.hid (HB.out.next hb); clear hb)
          | (go_at_call_of 13 (Value.string s); refine (hw _).mono ?_; rintro e w1 ⟨rfl, hb⟩; have HB := Lib.hid (HB.out.next hb); clear hb)
          | (go_at_call_of 13 (Value.string t); refine (hw2 _).mono ?_; rintro e w1 ⟨rfl, hb⟩; have HB := Lib.hid (HB.out.next hb); clear hb)
          | (go_at_call_of 10 (Value.string s); refine (hc _ (HT.out.bel HB.out (Nat.le_refl _))).mono ?_; rintro e w1 ⟨rfl, hb⟩; have HB := Lib.hid (HB.out.next hb); clear hb)
          | (go_at_call_of 10 (Value.string t); refine (hc2 _ (HT.out.bel HB.out (Nat.le_refl _))).mono ?_; rintro e w1 ⟨rfl, hb⟩; have HB := Lib.hid (HB.out.next hb); clear hb))
        go_ret
        exact ⟨rfl, HB.out⟩

theorem minusLaw_any (s : ByteArray) (n : Int) (w : World) (ht : Tab w) (hs : s.size ≤ 9223372036854775807) (_ : (Lit.int .i64 n).wf = true) :
    Calls Tryd.prog 8 #[.string s, .int .i64 n] w fun e w' => e = .returned (.bool true) ∧ Bel w.heap.size w w' := by
  by_cases h : 200 < s.size ∨ n < -9007199254740991 ∨ 9007199254740991 < n
  · exact minus_out s n hs h w ht
  · exact minus_in s n (by omega) (by omega) (by omega) w ht

end Go.Proofs.YtdfamphnilelnaaDoor
