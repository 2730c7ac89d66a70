/- G45: Vi, Vj, Vq joined. -/
import Derived.Test.YtpcbcodmocmilaaG44
import Derived.Test.YtpcbcodmocmilaaVp
namespace Go.Proofs.Ytpcbcodmocmilaa
open Go.RowKit
/- verify: instruction. -/
section
open Go.RowKit

def InsP (cd : CodeD) (x : InsD) (p k last h : Int) (w : World) (e : Ending) (w' : World) : Prop := Bel w.heap.size w w' ∧ match insI cd x p k last h with | some d => e = .returned (.int .i64 d) | none => e = .panicked FAULT

set_option maxRecDepth 100000 in
set_option maxHeartbeats 2000000 in
theorem ins_any (A1 A2 A3 A4 : Option Addr) (c1 c2 c3 c4 : Nat) (cd : CodeD) (x : InsD) (p k last hh : Int) (w : World) (h : CM w A1 A2 A3 A4 cd) (l1 : cd.ps.length ≤ 1000000000) (l2 : cd.gs.length ≤ 1000000000) (l3 : cd.ss.length ≤ 1000000000) (lc : cd.gs.length ≤ c2) :
    Calls Try.prog 25 #[.agg #[.slice A1 cd.ps.length c1, .slice A2 cd.gs.length c2, .slice A3 cd.ss.length c3, .slice A4 cd.is.length c4], .agg #[.int .i64 x.op, .int .i64 x.p, .int .i64 x.sign, .int .i64 x.kind, .int .i64 x.n, .string x.s, .int .i64 x.tt], .int .i64 p, .int .i64 k, .int .i64 last, .int .i64 hh] w (InsP cd x p k last hh w) := by
  have hT : ∀ w' d, Bel w.heap.size w w' → insI cd x p k last hh = some d → InsP cd x p k last hh w (.returned (.int .i64 d)) w' := fun w' n hb ht => ⟨hb, by rw [ht]⟩
  have hP : ∀ w', Bel w.heap.size w w' → insI cd x p k last hh = none → InsP cd x p k last hh w (.panicked FAULT) w' := fun w' hb ht => ⟨hb, by rw [ht]⟩
  generalize hPp : InsP cd x p k last hh w = PP at hT hP ⊢
  have HT := Lib.hid hT; have HP := Lib.hid hP; clear hT hP hPp
  have HB := Lib.hid (show Bel w.heap.size w ((w.alloc (.cells #[.slice A1 cd.ps.length c1, .slice A2 cd.gs.length c2, .slice A3 cd.ss.length c3, .slice A4 cd.is.length c4] 29)).alloc (.cells #[.int .i64 x.op, .int .i64 x.p, .int .i64 x.sign, .int .i64 x.kind, .int .i64 x.n, .string x.s, .int .i64 x.tt] 36)) from (((Bel.refl _ _).alloc (Nat.le_refl _) _).alloc (by simp) _))
  have hsg := fun w h => single_any A1 A2 A3 A4 c1 c2 c3 c4 cd x.p w h l1 l2 l3 lc
  have HCM := Lib.hid (h.bel (((Bel.refl _ _).alloc (Nat.le_refl _) _).alloc (by simp) _) : CM ((w.alloc (.cells #[.slice A1 cd.ps.length c1, .slice A2 cd.gs.length c2, .slice A3 cd.ss.length c3, .slice A4 cd.is.length c4] 29)).alloc (.cells #[.int .i64 x.op, .int .i64 x.p, .int .i64 x.sign, .int .i64 x.kind, .int .i64 x.n, .string x.s, .int .i64 x.tt] 36)) A1 A2 A3 A4 cd)
  clear h
  obtain ⟨op, xp, sg, kd, xn, xs, tt⟩ := x
  simp only at hsg HCM HB HT HP ⊢
  by_cases ha : 0 ≤ op
  rotate_left
  · have HF := Lib.hid (show insI cd ⟨op, xp, sg, kd, xn, xs, tt⟩ p k last hh = none by unfold insI; dsimp only; rw [if_pos (.inl (by omega))])
    go_enter Try.func25, Try.ntmps25
    go_wp2_with (go_at_call 12; refine (need_any _ _).mono ?_; rintro e w2 ⟨he, rfl⟩; obtain rfl := (show _ = _ by first | exact np_t he | exact np_f he))
    exact ⟨rfl, HP.out _ HB.out HF.out⟩
  by_cases hb : op ≤ 5
  rotate_left
  · have HF := Lib.hid (show insI cd ⟨op, xp, sg, kd, xn, xs, tt⟩ p k last hh = none by unfold insI; dsimp only; rw [if_pos (.inr (by omega))])
    go_enter Try.func25, Try.ntmps25
    go_wp2_with (go_at_call 12; refine (need_any _ _).mono ?_; rintro e w2 ⟨he, rfl⟩; obtain rfl := (show _ = _ by first | exact np_t he | exact np_f he))
    exact ⟨rfl, HP.out _ HB.out HF.out⟩
  have hop : op = 0 ∨ op = 1 ∨ op = 2 ∨ op = 3 ∨ op = 4 ∨ op = 5 := by omega
  clear ha hb
  rcases hop with rfl | rfl | rfl | rfl | rfl | rfl
  · by_cases h1 : p < xp
    · by_cases h2 : xp < (cd.ps.length : Int)
      · have HF := Lib.hid (show insI cd ⟨0, xp, sg, kd, xn, xs, tt⟩ p k last hh = some (1) by unfold insI; dsimp only; rw [if_neg (by omega), if_pos (.inl rfl), if_pos ⟨h1, h2, by omega⟩])
        go_enter Try.func25, Try.ntmps25
        go_wp2_with (go_at_call 12; refine (need_any _ _).mono ?_; rintro e w2 ⟨he, rfl⟩; obtain rfl := (show _ = _ by first | exact np_t he | exact np_f he))
        exact HT.out _ _ HB.out HF.out
      · have hd2 := decide_eq_false h2
        have HF := Lib.hid (show insI cd ⟨0, xp, sg, kd, xn, xs, tt⟩ p k last hh = none by unfold insI; dsimp only; rw [if_neg (by omega), if_pos (.inl rfl), if_neg (fun hc => h2 hc.2.1)])
        go_enter Try.func25, Try.ntmps25
        go_wp2_with (go_at_call 12; refine (need_any _ _).mono ?_; rintro e w2 ⟨he, rfl⟩; obtain rfl := (show _ = _ by first | exact np_t he | exact np_f he))
        exact ⟨rfl, HP.out _ HB.out HF.out⟩
    · have hd1 := decide_eq_false h1
      have HF := Lib.hid (show insI cd ⟨0, xp, sg, kd, xn, xs, tt⟩ p k last hh = none by unfold insI; dsimp only; rw [if_neg (by omega), if_pos (.inl rfl), if_neg (fun hc => h1 hc.1)])
      go_enter Try.func25, Try.ntmps25
      go_wp2_with (go_at_call 12; refine (need_any _ _).mono ?_; rintro e w2 ⟨he, rfl⟩; obtain rfl := (show _ = _ by first | exact np_t he | exact np_f he))
      exact ⟨rfl, HP.out _ HB.out HF.out⟩
  · by_cases h1 : p < xp
    · by_cases h2 : xp < (cd.ps.length : Int)
      · by_cases h3 : 0 ≤ sg
        · by_cases h4 : sg ≤ 5
          · by_cases h5 : 0 ≤ kd
            · by_cases h6 : kd ≤ 3
              · cases hs : singleOK cd xp with
                | true =>
                  unfold NP' at hsg
                  simp only [hs, if_true] at hsg
                  have HF := Lib.hid (show insI cd ⟨1, xp, sg, kd, xn, xs, tt⟩ p k last hh = some (1) by unfold insI; dsimp only; rw [if_neg (by omega), if_pos (.inr rfl), if_pos ⟨h1, h2, fun _ => ⟨h3, h4, h5, h6, hs⟩⟩])
                  clear hs
                  go_enter Try.func25, Try.ntmps25
                  go_wp2_with (first | (go_at_call 12; refine (need_any _ _).mono ?_; rintro e w2 ⟨he, rfl⟩; obtain rfl := (show _ = _ by first | exact np_t he | exact np_f he)) | (go_at_call 16; refine (hsg _ HCM.out).mono ?_; rintro e w2 ⟨rfl, hb⟩; have HB2 := Lib.hid (HB.out.next hb); clear hb))
                  exact HT.out _ _ HB2.out HF.out
                | false =>
                  unfold NP' at hsg
                  simp only [hs, Bool.false_eq_true, if_false] at hsg
                  have HF := Lib.hid (show insI cd ⟨1, xp, sg, kd, xn, xs, tt⟩ p k last hh = none by unfold insI; dsimp only; rw [if_neg (by omega), if_pos (.inr rfl), if_neg (fun hc => by have := (hc.2.2 rfl).2.2.2.2; rw [hs] at this; cases this)])
                  clear hs
                  go_enter Try.func25, Try.ntmps25
                  go_wp2_with (first | (go_at_call 12; refine (need_any _ _).mono ?_; rintro e w2 ⟨he, rfl⟩; obtain rfl := (show _ = _ by first | exact np_t he | exact np_f he)) | (go_at_call 16; refine (hsg _ HCM.out).mono ?_; rintro e w2 ⟨rfl, hb⟩; have HB2 := Lib.hid (HB.out.next hb); clear hb))
                  exact ⟨rfl, HP.out _ HB2.out HF.out⟩
              · have hd6 := decide_eq_false h6
                have HF := Lib.hid (show insI cd ⟨1, xp, sg, kd, xn, xs, tt⟩ p k last hh = none by unfold insI; dsimp only; rw [if_neg (by omega), if_pos (.inr rfl), if_neg (fun hc => h6 (hc.2.2 rfl).2.2.2.1)])
                go_enter Try.func25, Try.ntmps25
                go_wp2_with (go_at_call 12; refine (need_any _ _).mono ?_; rintro e w2 ⟨he, rfl⟩; obtain rfl := (show _ = _ by first | exact np_t he | exact np_f he))
                exact ⟨rfl, HP.out _ HB.out HF.out⟩
            · have hd5 := decide_eq_false h5
              have HF := Lib.hid (show insI cd ⟨1, xp, sg, kd, xn, xs, tt⟩ p k last hh = none by unfold insI; dsimp only; rw [if_neg (by omega), if_pos (.inr rfl), if_neg (fun hc => h5 (hc.2.2 rfl).2.2.1)])
              go_enter Try.func25, Try.ntmps25
              go_wp2_with (go_at_call 12; refine (need_any _ _).mono ?_; rintro e w2 ⟨he, rfl⟩; obtain rfl := (show _ = _ by first | exact np_t he | exact np_f he))
              exact ⟨rfl, HP.out _ HB.out HF.out⟩
          · have hd4 := decide_eq_false h4
            have HF := Lib.hid (show insI cd ⟨1, xp, sg, kd, xn, xs, tt⟩ p k last hh = none by unfold insI; dsimp only; rw [if_neg (by omega), if_pos (.inr rfl), if_neg (fun hc => h4 (hc.2.2 rfl).2.1)])
            go_enter Try.func25, Try.ntmps25
            go_wp2_with (go_at_call 12; refine (need_any _ _).mono ?_; rintro e w2 ⟨he, rfl⟩; obtain rfl := (show _ = _ by first | exact np_t he | exact np_f he))
            exact ⟨rfl, HP.out _ HB.out HF.out⟩
        · have hd3 := decide_eq_false h3
          have HF := Lib.hid (show insI cd ⟨1, xp, sg, kd, xn, xs, tt⟩ p k last hh = none by unfold insI; dsimp only; rw [if_neg (by omega), if_pos (.inr rfl), if_neg (fun hc => h3 (hc.2.2 rfl).1)])
          go_enter Try.func25, Try.ntmps25
          go_wp2_with (go_at_call 12; refine (need_any _ _).mono ?_; rintro e w2 ⟨he, rfl⟩; obtain rfl := (show _ = _ by first | exact np_t he | exact np_f he))
          exact ⟨rfl, HP.out _ HB.out HF.out⟩
      · have hd2 := decide_eq_false h2
        have HF := Lib.hid (show insI cd ⟨1, xp, sg, kd, xn, xs, tt⟩ p k last hh = none by unfold insI; dsimp only; rw [if_neg (by omega), if_pos (.inr rfl), if_neg (fun hc => h2 hc.2.1)])
        go_enter Try.func25, Try.ntmps25
        go_wp2_with (go_at_call 12; refine (need_any _ _).mono ?_; rintro e w2 ⟨he, rfl⟩; obtain rfl := (show _ = _ by first | exact np_t he | exact np_f he))
        exact ⟨rfl, HP.out _ HB.out HF.out⟩
    · have hd1 := decide_eq_false h1
      have HF := Lib.hid (show insI cd ⟨1, xp, sg, kd, xn, xs, tt⟩ p k last hh = none by unfold insI; dsimp only; rw [if_neg (by omega), if_pos (.inr rfl), if_neg (fun hc => h1 hc.1)])
      go_enter Try.func25, Try.ntmps25
      go_wp2_with (go_at_call 12; refine (need_any _ _).mono ?_; rintro e w2 ⟨he, rfl⟩; obtain rfl := (show _ = _ by first | exact np_t he | exact np_f he))
      exact ⟨rfl, HP.out _ HB.out HF.out⟩
  · by_cases h1 : 1 ≤ hh
    · have HF := Lib.hid (show insI cd ⟨2, xp, sg, kd, xn, xs, tt⟩ p k last hh = some (0) by unfold insI; dsimp only; rw [if_neg (by omega), if_neg (by omega), if_neg (by omega), if_pos rfl, if_pos h1])
      go_enter Try.func25, Try.ntmps25
      go_wp2_with (go_at_call 12; refine (need_any _ _).mono ?_; rintro e w2 ⟨he, rfl⟩; obtain rfl := (show _ = _ by first | exact np_t he | exact np_f he))
      exact HT.out _ _ HB.out HF.out
    · have hd1 := decide_eq_false h1
      have HF := Lib.hid (show insI cd ⟨2, xp, sg, kd, xn, xs, tt⟩ p k last hh = none by unfold insI; dsimp only; rw [if_neg (by omega), if_neg (by omega), if_neg (by omega), if_pos rfl, if_neg h1])
      go_enter Try.func25, Try.ntmps25
      go_wp2_with (go_at_call 12; refine (need_any _ _).mono ?_; rintro e w2 ⟨he, rfl⟩; obtain rfl := (show _ = _ by first | exact np_t he | exact np_f he))
      exact ⟨rfl, HP.out _ HB.out HF.out⟩
  · by_cases h1 : 1 ≤ hh
    · by_cases h2 : k < tt
      · by_cases h3 : tt ≤ last
        · have HF := Lib.hid (show insI cd ⟨3, xp, sg, kd, xn, xs, tt⟩ p k last hh = some (-1) by unfold insI; dsimp only; rw [if_neg (by omega), if_neg (by omega), if_pos (.inl rfl), if_pos ⟨h1, h2, h3⟩])
          go_enter Try.func25, Try.ntmps25
          go_wp2_with (go_at_call 12; refine (need_any _ _).mono ?_; rintro e w2 ⟨he, rfl⟩; obtain rfl := (show _ = _ by first | exact np_t he | exact np_f he))
          exact HT.out _ _ HB.out HF.out
        · have hd3 := decide_eq_false h3
          have HF := Lib.hid (show insI cd ⟨3, xp, sg, kd, xn, xs, tt⟩ p k last hh = none by unfold insI; dsimp only; rw [if_neg (by omega), if_neg (by omega), if_pos (.inl rfl), if_neg (fun hc => h3 hc.2.2)])
          go_enter Try.func25, Try.ntmps25
          go_wp2_with (go_at_call 12; refine (need_any _ _).mono ?_; rintro e w2 ⟨he, rfl⟩; obtain rfl := (show _ = _ by first | exact np_t he | exact np_f he))
          exact ⟨rfl, HP.out _ HB.out HF.out⟩
      · have hd2 := decide_eq_false h2
        have HF := Lib.hid (show insI cd ⟨3, xp, sg, kd, xn, xs, tt⟩ p k last hh = none by unfold insI; dsimp only; rw [if_neg (by omega), if_neg (by omega), if_pos (.inl rfl), if_neg (fun hc => h2 hc.2.1)])
        go_enter Try.func25, Try.ntmps25
        go_wp2_with (go_at_call 12; refine (need_any _ _).mono ?_; rintro e w2 ⟨he, rfl⟩; obtain rfl := (show _ = _ by first | exact np_t he | exact np_f he))
        exact ⟨rfl, HP.out _ HB.out HF.out⟩
    · have hd1 := decide_eq_false h1
      have HF := Lib.hid (show insI cd ⟨3, xp, sg, kd, xn, xs, tt⟩ p k last hh = none by unfold insI; dsimp only; rw [if_neg (by omega), if_neg (by omega), if_pos (.inl rfl), if_neg (fun hc => h1 hc.1)])
      go_enter Try.func25, Try.ntmps25
      go_wp2_with (go_at_call 12; refine (need_any _ _).mono ?_; rintro e w2 ⟨he, rfl⟩; obtain rfl := (show _ = _ by first | exact np_t he | exact np_f he))
      exact ⟨rfl, HP.out _ HB.out HF.out⟩
  · by_cases h1 : 1 ≤ hh
    · by_cases h2 : k < tt
      · by_cases h3 : tt ≤ last
        · have HF := Lib.hid (show insI cd ⟨4, xp, sg, kd, xn, xs, tt⟩ p k last hh = some (-1) by unfold insI; dsimp only; rw [if_neg (by omega), if_neg (by omega), if_pos (.inr rfl), if_pos ⟨h1, h2, h3⟩])
          go_enter Try.func25, Try.ntmps25
          go_wp2_with (go_at_call 12; refine (need_any _ _).mono ?_; rintro e w2 ⟨he, rfl⟩; obtain rfl := (show _ = _ by first | exact np_t he | exact np_f he))
          exact HT.out _ _ HB.out HF.out
        · have hd3 := decide_eq_false h3
          have HF := Lib.hid (show insI cd ⟨4, xp, sg, kd, xn, xs, tt⟩ p k last hh = none by unfold insI; dsimp only; rw [if_neg (by omega), if_neg (by omega), if_pos (.inr rfl), if_neg (fun hc => h3 hc.2.2)])
          go_enter Try.func25, Try.ntmps25
          go_wp2_with (go_at_call 12; refine (need_any _ _).mono ?_; rintro e w2 ⟨he, rfl⟩; obtain rfl := (show _ = _ by first | exact np_t he | exact np_f he))
          exact ⟨rfl, HP.out _ HB.out HF.out⟩
      · have hd2 := decide_eq_false h2
        have HF := Lib.hid (show insI cd ⟨4, xp, sg, kd, xn, xs, tt⟩ p k last hh = none by unfold insI; dsimp only; rw [if_neg (by omega), if_neg (by omega), if_pos (.inr rfl), if_neg (fun hc => h2 hc.2.1)])
        go_enter Try.func25, Try.ntmps25
        go_wp2_with (go_at_call 12; refine (need_any _ _).mono ?_; rintro e w2 ⟨he, rfl⟩; obtain rfl := (show _ = _ by first | exact np_t he | exact np_f he))
        exact ⟨rfl, HP.out _ HB.out HF.out⟩
    · have hd1 := decide_eq_false h1
      have HF := Lib.hid (show insI cd ⟨4, xp, sg, kd, xn, xs, tt⟩ p k last hh = none by unfold insI; dsimp only; rw [if_neg (by omega), if_neg (by omega), if_pos (.inr rfl), if_neg (fun hc => h1 hc.1)])
      go_enter Try.func25, Try.ntmps25
      go_wp2_with (go_at_call 12; refine (need_any _ _).mono ?_; rintro e w2 ⟨he, rfl⟩; obtain rfl := (show _ = _ by first | exact np_t he | exact np_f he))
      exact ⟨rfl, HP.out _ HB.out HF.out⟩
  · have HF := Lib.hid (show insI cd ⟨5, xp, sg, kd, xn, xs, tt⟩ p k last hh = some (0) by unfold insI; dsimp only; rw [if_neg (by omega), if_neg (by omega), if_neg (by omega), if_neg (by omega)])
    go_enter Try.func25, Try.ntmps25
    go_wp2_with (go_at_call 12; refine (need_any _ _).mono ?_; rintro e w2 ⟨he, rfl⟩; obtain rfl := (show _ = _ by first | exact np_t he | exact np_f he))
    exact HT.out _ _ HB.out HF.out

end
/- verify: meet (a closure of instructions). -/
section
open Go.RowKit

def ints (hs : List Int) : Array Value := (hs.map (Value.int .i64)).toArray
theorem ints_get (hs : List Int) (i : Nat) (v : Int) (h : hs[i]? = some v) : (ints hs)[i]? = some (.int .i64 v) := by unfold ints; simp [h]
theorem ints_set (hs : List Int) (i : Nat) (v : Int) : (ints hs).setIfInBounds i (.int .i64 v) = ints (hs.set i v) := by unfold ints; simp
def MeetP (hs : List Int) (i : Nat) (h : Int) (g : Nat) (w : World) (e : Ending) (w' : World) : Prop :=
  match meetL hs i h with | some _ => e = .returned (.tuple #[]) ∧ w' = w.setCell ⟨g, i, none⟩ (.int .i64 h) | none => e = .panicked FAULT ∧ w' = w

set_option maxRecDepth 100000 in
set_option maxHeartbeats 1000000 in
theorem meet_any (g b7 b5 a i n : Nat) (h : Int) (hs : List Int) (w : World) (hg : Blk w g 3 (ints hs)) (h7 : Blk w b7 75 #[.slice (some ⟨g, 0, none⟩) n n]) (h5 : Blk w b5 3 #[.int .i64 (a : Int)]) (hn : hs.length = n) (hi : i < n) (hl : a + i ≤ 2000000000) :
    Calls Try.prog 24 #[.int .i64 ((a + i : Nat) : Int), .int .i64 h, .pointer (some ⟨b7, 0, none⟩), .pointer (some ⟨b5, 0, none⟩)] w (MeetP hs i h g w) := by
  have hT : meetL hs i h ≠ none → MeetP hs i h g w (.returned (.tuple #[])) (w.setCell ⟨g, i, none⟩ (.int .i64 h)) := fun hn => by
    unfold MeetP; cases hm : meetL hs i h with
    | none => exact absurd hm hn
    | some _ => exact ⟨rfl, rfl⟩
  have hP : meetL hs i h = none → MeetP hs i h g w (.panicked FAULT) w := fun hm => by unfold MeetP; rw [hm]; exact ⟨rfl, rfl⟩
  generalize hPp : MeetP hs i h g w = PP at hT hP ⊢
  have HT := Lib.hid hT; have HP := Lib.hid hP; clear hT hP hPp
  obtain ⟨v, hv⟩ : ∃ v, hs[i]? = some v := ⟨_, List.getElem?_eq_getElem (by omega)⟩
  have HM := Lib.hid (show meetL hs i h = if v = -1 ∨ v = h then some (hs.set i h) else none by unfold meetL; rw [List.getD_eq_getElem?_getD, hv]; rfl)
  have hc : w.cell? ⟨g, i, none⟩ = some (.int .i64 v) := (hg.cell i).trans (ints_get hs i v hv)
  have hcz := hg.frozen i
  have hcl := hg.lt
  have h70 : w.cell? ⟨b7, 0, none⟩ = some (.slice (some ⟨g, 0, none⟩) n n) := h7.cell 0
  have h7z := h7.frozen 0
  have h7l := h7.lt
  have h50 : w.cell? ⟨b5, 0, none⟩ = some (.int .i64 (a : Int)) := h5.cell 0
  have h5z := h5.frozen 0
  have h5l := h5.lt
  have e1 : ((a + i : Nat) : Int) - (a : Int) = (i : Int) := by omega
  clear hv hg h7 h5 hn
  by_cases h1 : v = -1
  · have HF := Lib.hid (show meetL hs i h ≠ none by rw [HM.out, if_pos (.inl h1)]; simp)
    subst h1
    clear HM
    go_enter Try.func24, Try.ntmps24
    go_wp2_with (go_at_call 12; refine (need_any _ _).mono ?_; rintro e w2 ⟨he, rfl⟩; obtain rfl := (show _ = _ by first | exact np_t he | exact np_f he))
    go_end0
    exact HT.out HF.out
  · by_cases h2 : v = h
    · have HF := Lib.hid (show meetL hs i h ≠ none by rw [HM.out, if_pos (.inr h2)]; simp)
      subst h2
      clear HM
      have hd1 : (v == -1) = false := beq_eq_false_iff_ne.2 h1
      go_enter Try.func24, Try.ntmps24
      go_wp2_with (go_at_call 12; refine (need_any _ _).mono ?_; rintro e w2 ⟨he, rfl⟩; obtain rfl := (show _ = _ by first | exact np_t he | exact np_f he))
      go_end0
      exact HT.out HF.out
    · have HF := Lib.hid (show meetL hs i h = none by rw [HM.out, if_neg (by omega)])
      clear HM
      have hd1 : (v == -1) = false := beq_eq_false_iff_ne.2 h1
      have hd2 : (v == h) = false := beq_eq_false_iff_ne.2 h2
      go_enter Try.func24, Try.ntmps24
      go_wp2_with (go_at_call 12; refine (need_any _ _).mono ?_; rintro e w2 ⟨he, rfl⟩; obtain rfl := (show _ = _ by first | exact np_t he | exact np_f he))
      exact ⟨rfl, HP.out HF.out⟩

end
/- verify: one instruction more; plain. -/
section

def finL (n : Nat) (o : Option (List Int)) : Bool := match o with | none => false | some hs => decide (hs.getD n 0 = 1)
def finM (cd : CodeD) (p : Int) (a n k : Nat) (v d : Int) (o : Option (List Int)) : Bool :=
  match o with
  | none => false
  | some h2 => match meetL h2 (k + 1) (v + d) with
    | none => false
    | some h3 => finL n (runL cd p a (a + n) ((cd.is.drop (a + (k + 1))).take (n - (k + 1))) (a + (k + 1)) h3)
theorem fill_step (n k : Nat) (h : k < n + 1) : List.set (List.replicate k (-1 : Int) ++ List.replicate (n + 1 - k) 0) k (-1) = List.replicate (k + 1) (-1) ++ List.replicate (n + 1 - (k + 1)) 0 := by
  rw [List.set_append, if_neg (by simp), List.length_replicate, Nat.sub_self, show n + 1 - k = (n + 1 - (k + 1)) + 1 by omega, List.replicate_succ, List.set_cons_zero, List.replicate_succ', List.append_assoc]
  rfl
theorem fill_get (n k : Nat) (h : k < n + 1) : ∃ v : Int, (List.replicate k (-1 : Int) ++ List.replicate (n + 1 - k) 0)[k]? = some v := ⟨_, List.getElem?_eq_getElem (by simp; omega)⟩
theorem HB_start (n : Nat) : ∀ v ∈ (0 :: List.replicate n (-1) : List Int), -1 ≤ v ∧ v ≤ ((0 : Nat) : Int) := by
  intro v hv
  rcases List.mem_cons.1 hv with rfl | hv
  · simp
  · rw [(List.mem_replicate.1 hv).2]; simp
theorem filter_fin (cd : CodeD) (p : Int) (a n : Nat) (h : (cd.is.drop a).findIdx? (fun x => x.op == 5) = some n) :
    filterOK cd p (a : Int) = finL n (runL cd p a (a + n) ((cd.is.drop (a + 0)).take (n - 0)) (a + 0) (0 :: List.replicate n (-1))) := by
  unfold filterOK; rw [if_neg (by omega), Int.toNat_natCast, h]; simp only [Nat.add_zero, Nat.sub_zero]; unfold finL; rfl
theorem run_step (cd : CodeD) (p : Int) (a n k : Nat) (hs : List Int) (x : InsD) (v : Int) (hk : k < n) (hx : cd.is[a + k]? = some x) (hv : hs[k]? = some v) :
    finL n (runL cd p a (a + n) ((cd.is.drop (a + k)).take (n - k)) (a + k) hs) =
      match insI cd x p ((a + k : Nat) : Int) ((a + n : Nat) : Int) v with
      | none => false
      | some d => finM cd p a n k v d (if d < 0 then meetL hs (x.tt.toNat - a) v else some hs) := by
  obtain ⟨hl, hxe⟩ := List.getElem?_eq_some_iff.1 hx
  rw [List.drop_eq_getElem_cons hl, hxe, show n - k = (n - (k + 1)) + 1 by omega, List.take_succ_cons, runL]
  unfold stepL
  have e : hs.getD (a + k - a) 0 = v := by rw [List.getD_eq_getElem?_getD, show a + k - a = k by omega, hv]; rfl
  rw [e]
  cases insI cd x p ((a + k : Nat) : Int) ((a + n : Nat) : Int) v with
  | none => rfl
  | some d =>
    simp only
    cases (if d < 0 then meetL hs (x.tt.toNat - a) v else some hs) with
    | none => rfl
    | some h2 =>
      unfold finM
      simp only [Option.bind_some]
      rw [show a + k + 1 - a = k + 1 by omega, show a + k + 1 = a + (k + 1) by omega]
      cases meetL h2 (k + 1) (v + d) with
      | none => rfl
      | some h3 => rfl
theorem run_end (cd : CodeD) (p : Int) (a n : Nat) (hs : List Int) (v : Int) (hv : hs[n]? = some v) :
    finL n (runL cd p a (a + n) ((cd.is.drop (a + n)).take (n - n)) (a + n) hs) = decide (v = 1) := by
  rw [Nat.sub_self, List.take_zero, runL, finL, List.getD_eq_getElem?_getD, hv]; rfl
theorem ins_bd (cd : CodeD) (x : InsD) (p k last h d : Int) (hi : insI cd x p k last h = some d) : (d = -1 ∧ 1 ≤ h ∧ k < x.tt ∧ x.tt ≤ last) ∨ d = 0 ∨ d = 1 := by
  unfold insI at hi
  split at hi
  · cases hi
  · split at hi
    · split at hi
      · injection hi with hi; omega
      · cases hi
    · split at hi
      · split at hi
        · rename_i hc; injection hi with hi; exact .inl ⟨hi.symm, hc⟩
        · cases hi
      · split at hi
        · split at hi
          · injection hi with hi; omega
          · cases hi
        · injection hi with hi; omega
/-- All heights lie between -1 and k. -/
def HB (k : Nat) (hs : List Int) : Prop := ∀ v ∈ hs, -1 ≤ v ∧ v ≤ (k : Int)
theorem HB.set {k : Nat} {hs : List Int} (h : HB k hs) (i : Nat) (v : Int) (h1 : -1 ≤ v) (h2 : v ≤ (k : Int)) : HB k (hs.set i v) := by
  intro u hu
  rcases List.mem_or_eq_of_mem_set hu with hu | hu
  · exact h u hu
  · subst hu; exact ⟨h1, h2⟩
theorem HB.mono {k : Nat} {hs : List Int} (h : HB k hs) : HB (k + 1) hs := fun v hv => by have := h v hv; omega
theorem HB.get {k i : Nat} {hs : List Int} {v : Int} (h : HB k hs) (hv : hs[i]? = some v) : -1 ≤ v ∧ v ≤ (k : Int) := h v (List.mem_of_getElem? hv)
theorem meetL_some {hs h2 : List Int} {i : Nat} {h : Int} (e : meetL hs i h = some h2) : h2 = hs.set i h := by
  unfold meetL at e; split at e
  · injection e with e; exact e.symm
  · cases e

end

end Go.Proofs.Ytpcbcodmocmilaa
