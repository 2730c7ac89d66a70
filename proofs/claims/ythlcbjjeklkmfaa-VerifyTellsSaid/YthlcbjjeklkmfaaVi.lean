/- verify: instruction. -/
import Derived.Test.YthlcbjjeklkmfaaVh
namespace Go.Proofs.Ythlcbjjeklkmfaa
open Go.RowKit

def InsP (cd : CodeD) (x : InsD) (p k last h : Int) (w : World) (e : Ending) (w' : World) : Prop := Bel w.heap.size w w' ∧ match insI cd x p k last h with | some d => e = .returned (.int .i64 d) | none => e = .panicked FAULT

set_option maxRecDepth 100000 in
set_option maxHeartbeats 2000000 in
theorem ins_any (A1 A2 A3 A4 : Option Addr) (c1 c2 c3 c4 : Nat) (cd : CodeD) (x : InsD) (p k last hh : Int) (w : World) (h : CM w A1 A2 A3 A4 cd) (l1 : cd.ps.length ≤ 1000000000) (l2 : cd.gs.length ≤ 1000000000) (l3 : cd.ss.length ≤ 1000000000) (lc : cd.gs.length ≤ c2) :
    Calls Try.prog 22 #[.agg #[.slice A1 cd.ps.length c1, .slice A2 cd.gs.length c2, .slice A3 cd.ss.length c3, .slice A4 cd.is.length c4], .agg #[.int .i64 x.op, .int .i64 x.p, .int .i64 x.sign, .int .i64 x.kind, .int .i64 x.n, .string x.s, .int .i64 x.tt], .int .i64 p, .int .i64 k, .int .i64 last, .int .i64 hh] w (InsP cd x p k last hh w) := by
  have hT : ∀ w' d, Bel w.heap.size w w' → insI cd x p k last hh = some d → InsP cd x p k last hh w (.returned (.int .i64 d)) w' := fun w' n hb ht => ⟨hb, by rw [ht]⟩
  have hP : ∀ w', Bel w.heap.size w w' → insI cd x p k last hh = none → InsP cd x p k last hh w (.panicked FAULT) w' := fun w' hb ht => ⟨hb, by rw [ht]⟩
  generalize hPp : InsP cd x p k last hh w = PP at hT hP ⊢
  have HT := Lib.hid hT; have HP := Lib.hid hP; clear hT hP hPp
  have HB := Lib.hid (show Bel w.heap.size w ((w.alloc (.cells #[.slice A1 cd.ps.length c1, .slice A2 cd.gs.length c2, .slice A3 cd.ss.length c3, .slice A4 cd.is.length c4] 27)).alloc (.cells #[.int .i64 x.op, .int .i64 x.p, .int .i64 x.sign, .int .i64 x.kind, .int .i64 x.n, .string x.s, .int .i64 x.tt] 31)) from (((Bel.refl _ _).alloc (Nat.le_refl _) _).alloc (by simp) _))
  have hsg := fun w h => single_any A1 A2 A3 A4 c1 c2 c3 c4 cd x.p w h l1 l2 l3 lc
  have HCM := Lib.hid (h.bel (((Bel.refl _ _).alloc (Nat.le_refl _) _).alloc (by simp) _) : CM ((w.alloc (.cells #[.slice A1 cd.ps.length c1, .slice A2 cd.gs.length c2, .slice A3 cd.ss.length c3, .slice A4 cd.is.length c4] 27)).alloc (.cells #[.int .i64 x.op, .int .i64 x.p, .int .i64 x.sign, .int .i64 x.kind, .int .i64 x.n, .string x.s, .int .i64 x.tt] 31)) A1 A2 A3 A4 cd)
  clear h
  obtain ⟨op, xp, sg, kd, xn, xs, tt⟩ := x
  simp only at hsg HCM HB HT HP ⊢
  by_cases ha : 0 ≤ op
  rotate_left
  · have HF := Lib.hid (show insI cd ⟨op, xp, sg, kd, xn, xs, tt⟩ p k last hh = none by unfold insI; dsimp only; rw [if_pos (.inl (by omega))])
    go_enter Try.func22, Try.ntmps22
    go_wp2_with (go_at_call 12; refine (need_any _ _).mono ?_; rintro e w2 ⟨he, rfl⟩; obtain rfl := (show _ = _ by first | exact np_t he | exact np_f he))
    exact ⟨rfl, HP.out _ HB.out HF.out⟩
  by_cases hb : op ≤ 5
  rotate_left
  · have HF := Lib.hid (show insI cd ⟨op, xp, sg, kd, xn, xs, tt⟩ p k last hh = none by unfold insI; dsimp only; rw [if_pos (.inr (by omega))])
    go_enter Try.func22, Try.ntmps22
    go_wp2_with (go_at_call 12; refine (need_any _ _).mono ?_; rintro e w2 ⟨he, rfl⟩; obtain rfl := (show _ = _ by first | exact np_t he | exact np_f he))
    exact ⟨rfl, HP.out _ HB.out HF.out⟩
  have hop : op = 0 ∨ op = 1 ∨ op = 2 ∨ op = 3 ∨ op = 4 ∨ op = 5 := by omega
  clear ha hb
  rcases hop with rfl | rfl | rfl | rfl | rfl | rfl
  · by_cases h1 : p < xp
    · by_cases h2 : xp < (cd.ps.length : Int)
      · have HF := Lib.hid (show insI cd ⟨0, xp, sg, kd, xn, xs, tt⟩ p k last hh = some (1) by unfold insI; dsimp only; rw [if_neg (by omega), if_pos (.inl rfl), if_pos ⟨h1, h2, by omega⟩])
        go_enter Try.func22, Try.ntmps22
        go_wp2_with (go_at_call 12; refine (need_any _ _).mono ?_; rintro e w2 ⟨he, rfl⟩; obtain rfl := (show _ = _ by first | exact np_t he | exact np_f he))
        exact HT.out _ _ HB.out HF.out
      · have hd2 := decide_eq_false h2
        have HF := Lib.hid (show insI cd ⟨0, xp, sg, kd, xn, xs, tt⟩ p k last hh = none by unfold insI; dsimp only; rw [if_neg (by omega), if_pos (.inl rfl), if_neg (fun hc => h2 hc.2.1)])
        go_enter Try.func22, Try.ntmps22
        go_wp2_with (go_at_call 12; refine (need_any _ _).mono ?_; rintro e w2 ⟨he, rfl⟩; obtain rfl := (show _ = _ by first | exact np_t he | exact np_f he))
        exact ⟨rfl, HP.out _ HB.out HF.out⟩
    · have hd1 := decide_eq_false h1
      have HF := Lib.hid (show insI cd ⟨0, xp, sg, kd, xn, xs, tt⟩ p k last hh = none by unfold insI; dsimp only; rw [if_neg (by omega), if_pos (.inl rfl), if_neg (fun hc => h1 hc.1)])
      go_enter Try.func22, Try.ntmps22
      go_wp2_with (go_at_call 12; refine (need_any _ _).mono ?_; rintro e w2 ⟨he, rfl⟩; obtain rfl := (show _ = _ by first | exact np_t he | exact np_f he))
      exact ⟨rfl, HP.out _ HB.out HF.out⟩
  · by_cases h1 : p < xp
    · by_cases h2 : xp < (cd.ps.length : Int)
      · by_cases h3 : 0 ≤ sg
        · by_cases h4 : sg ≤ 5
          · by_cases h5 : 0 ≤ kd
            · by_cases h6 : kd ≤ 3
              · cases hs : singleOK cd xp with
                | true =>
                  unfold NP' at hsg
                  simp only [hs, if_true] at hsg
                  have HF := Lib.hid (show insI cd ⟨1, xp, sg, kd, xn, xs, tt⟩ p k last hh = some (1) by unfold insI; dsimp only; rw [if_neg (by omega), if_pos (.inr rfl), if_pos ⟨h1, h2, fun _ => ⟨h3, h4, h5, h6, hs⟩⟩])
                  clear hs
                  go_enter Try.func22, Try.ntmps22
                  go_wp2_with (first | (go_at_call 12; refine (need_any _ _).mono ?_; rintro e w2 ⟨he, rfl⟩; obtain rfl := (show _ = _ by first | exact np_t he | exact np_f he)) | (go_at_call 19; refine (hsg _ HCM.out).mono ?_; rintro e w2 ⟨rfl, hb⟩; have HB2 := Lib.hid (HB.out.next hb); clear hb))
                  exact HT.out _ _ HB2.out HF.out
                | false =>
                  unfold NP' at hsg
                  simp only [hs, Bool.false_eq_true, if_false] at hsg
                  have HF := Lib.hid (show insI cd ⟨1, xp, sg, kd, xn, xs, tt⟩ p k last hh = none by unfold insI; dsimp only; rw [if_neg (by omega), if_pos (.inr rfl), if_neg (fun hc => by have := (hc.2.2 rfl).2.2.2.2; rw [hs] at this; cases this)])
                  clear hs
                  go_enter Try.func22, Try.ntmps22
                  go_wp2_with (first | (go_at_call 12; refine (need_any _ _).mono ?_; rintro e w2 ⟨he, rfl⟩; obtain rfl := (show _ = _ by first | exact np_t he | exact np_f he)) | (go_at_call 19; refine (hsg _ HCM.out).mono ?_; rintro e w2 ⟨rfl, hb⟩; have HB2 := Lib.hid (HB.out.next hb); clear hb))
                  exact ⟨rfl, HP.out _ HB2.out HF.out⟩
              · have hd6 := decide_eq_false h6
                have HF := Lib.hid (show insI cd ⟨1, xp, sg, kd, xn, xs, tt⟩ p k last hh = none by unfold insI; dsimp only; rw [if_neg (by omega), if_pos (.inr rfl), if_neg (fun hc => h6 (hc.2.2 rfl).2.2.2.1)])
                go_enter Try.func22, Try.ntmps22
                go_wp2_with (go_at_call 12; refine (need_any _ _).mono ?_; rintro e w2 ⟨he, rfl⟩; obtain rfl := (show _ = _ by first | exact np_t he | exact np_f he))
                exact ⟨rfl, HP.out _ HB.out HF.out⟩
            · have hd5 := decide_eq_false h5
              have HF := Lib.hid (show insI cd ⟨1, xp, sg, kd, xn, xs, tt⟩ p k last hh = none by unfold insI; dsimp only; rw [if_neg (by omega), if_pos (.inr rfl), if_neg (fun hc => h5 (hc.2.2 rfl).2.2.1)])
              go_enter Try.func22, Try.ntmps22
              go_wp2_with (go_at_call 12; refine (need_any _ _).mono ?_; rintro e w2 ⟨he, rfl⟩; obtain rfl := (show _ = _ by first | exact np_t he | exact np_f he))
              exact ⟨rfl, HP.out _ HB.out HF.out⟩
          · have hd4 := decide_eq_false h4
            have HF := Lib.hid (show insI cd ⟨1, xp, sg, kd, xn, xs, tt⟩ p k last hh = none by unfold insI; dsimp only; rw [if_neg (by omega), if_pos (.inr rfl), if_neg (fun hc => h4 (hc.2.2 rfl).2.1)])
            go_enter Try.func22, Try.ntmps22
            go_wp2_with (go_at_call 12; refine (need_any _ _).mono ?_; rintro e w2 ⟨he, rfl⟩; obtain rfl := (show _ = _ by first | exact np_t he | exact np_f he))
            exact ⟨rfl, HP.out _ HB.out HF.out⟩
        · have hd3 := decide_eq_false h3
          have HF := Lib.hid (show insI cd ⟨1, xp, sg, kd, xn, xs, tt⟩ p k last hh = none by unfold insI; dsimp only; rw [if_neg (by omega), if_pos (.inr rfl), if_neg (fun hc => h3 (hc.2.2 rfl).1)])
          go_enter Try.func22, Try.ntmps22
          go_wp2_with (go_at_call 12; refine (need_any _ _).mono ?_; rintro e w2 ⟨he, rfl⟩; obtain rfl := (show _ = _ by first | exact np_t he | exact np_f he))
          exact ⟨rfl, HP.out _ HB.out HF.out⟩
      · have hd2 := decide_eq_false h2
        have HF := Lib.hid (show insI cd ⟨1, xp, sg, kd, xn, xs, tt⟩ p k last hh = none by unfold insI; dsimp only; rw [if_neg (by omega), if_pos (.inr rfl), if_neg (fun hc => h2 hc.2.1)])
        go_enter Try.func22, Try.ntmps22
        go_wp2_with (go_at_call 12; refine (need_any _ _).mono ?_; rintro e w2 ⟨he, rfl⟩; obtain rfl := (show _ = _ by first | exact np_t he | exact np_f he))
        exact ⟨rfl, HP.out _ HB.out HF.out⟩
    · have hd1 := decide_eq_false h1
      have HF := Lib.hid (show insI cd ⟨1, xp, sg, kd, xn, xs, tt⟩ p k last hh = none by unfold insI; dsimp only; rw [if_neg (by omega), if_pos (.inr rfl), if_neg (fun hc => h1 hc.1)])
      go_enter Try.func22, Try.ntmps22
      go_wp2_with (go_at_call 12; refine (need_any _ _).mono ?_; rintro e w2 ⟨he, rfl⟩; obtain rfl := (show _ = _ by first | exact np_t he | exact np_f he))
      exact ⟨rfl, HP.out _ HB.out HF.out⟩
  · by_cases h1 : 1 ≤ hh
    · have HF := Lib.hid (show insI cd ⟨2, xp, sg, kd, xn, xs, tt⟩ p k last hh = some (0) by unfold insI; dsimp only; rw [if_neg (by omega), if_neg (by omega), if_neg (by omega), if_pos rfl, if_pos h1])
      go_enter Try.func22, Try.ntmps22
      go_wp2_with (go_at_call 12; refine (need_any _ _).mono ?_; rintro e w2 ⟨he, rfl⟩; obtain rfl := (show _ = _ by first | exact np_t he | exact np_f he))
      exact HT.out _ _ HB.out HF.out
    · have hd1 := decide_eq_false h1
      have HF := Lib.hid (show insI cd ⟨2, xp, sg, kd, xn, xs, tt⟩ p k last hh = none by unfold insI; dsimp only; rw [if_neg (by omega), if_neg (by omega), if_neg (by omega), if_pos rfl, if_neg h1])
      go_enter Try.func22, Try.ntmps22
      go_wp2_with (go_at_call 12; refine (need_any _ _).mono ?_; rintro e w2 ⟨he, rfl⟩; obtain rfl := (show _ = _ by first | exact np_t he | exact np_f he))
      exact ⟨rfl, HP.out _ HB.out HF.out⟩
  · by_cases h1 : 1 ≤ hh
    · by_cases h2 : k < tt
      · by_cases h3 : tt ≤ last
        · have HF := Lib.hid (show insI cd ⟨3, xp, sg, kd, xn, xs, tt⟩ p k last hh = some (-1) by unfold insI; dsimp only; rw [if_neg (by omega), if_neg (by omega), if_pos (.inl rfl), if_pos ⟨h1, h2, h3⟩])
          go_enter Try.func22, Try.ntmps22
          go_wp2_with (go_at_call 12; refine (need_any _ _).mono ?_; rintro e w2 ⟨he, rfl⟩; obtain rfl := (show _ = _ by first | exact np_t he | exact np_f he))
          exact HT.out _ _ HB.out HF.out
        · have hd3 := decide_eq_false h3
          have HF := Lib.hid (show insI cd ⟨3, xp, sg, kd, xn, xs, tt⟩ p k last hh = none by unfold insI; dsimp only; rw [if_neg (by omega), if_neg (by omega), if_pos (.inl rfl), if_neg (fun hc => h3 hc.2.2)])
          go_enter Try.func22, Try.ntmps22
          go_wp2_with (go_at_call 12; refine (need_any _ _).mono ?_; rintro e w2 ⟨he, rfl⟩; obtain rfl := (show _ = _ by first | exact np_t he | exact np_f he))
          exact ⟨rfl, HP.out _ HB.out HF.out⟩
      · have hd2 := decide_eq_false h2
        have HF := Lib.hid (show insI cd ⟨3, xp, sg, kd, xn, xs, tt⟩ p k last hh = none by unfold insI; dsimp only; rw [if_neg (by omega), if_neg (by omega), if_pos (.inl rfl), if_neg (fun hc => h2 hc.2.1)])
        go_enter Try.func22, Try.ntmps22
        go_wp2_with (go_at_call 12; refine (need_any _ _).mono ?_; rintro e w2 ⟨he, rfl⟩; obtain rfl := (show _ = _ by first | exact np_t he | exact np_f he))
        exact ⟨rfl, HP.out _ HB.out HF.out⟩
    · have hd1 := decide_eq_false h1
      have HF := Lib.hid (show insI cd ⟨3, xp, sg, kd, xn, xs, tt⟩ p k last hh = none by unfold insI; dsimp only; rw [if_neg (by omega), if_neg (by omega), if_pos (.inl rfl), if_neg (fun hc => h1 hc.1)])
      go_enter Try.func22, Try.ntmps22
      go_wp2_with (go_at_call 12; refine (need_any _ _).mono ?_; rintro e w2 ⟨he, rfl⟩; obtain rfl := (show _ = _ by first | exact np_t he | exact np_f he))
      exact ⟨rfl, HP.out _ HB.out HF.out⟩
  · by_cases h1 : 1 ≤ hh
    · by_cases h2 : k < tt
      · by_cases h3 : tt ≤ last
        · have HF := Lib.hid (show insI cd ⟨4, xp, sg, kd, xn, xs, tt⟩ p k last hh = some (-1) by unfold insI; dsimp only; rw [if_neg (by omega), if_neg (by omega), if_pos (.inr rfl), if_pos ⟨h1, h2, h3⟩])
          go_enter Try.func22, Try.ntmps22
          go_wp2_with (go_at_call 12; refine (need_any _ _).mono ?_; rintro e w2 ⟨he, rfl⟩; obtain rfl := (show _ = _ by first | exact np_t he | exact np_f he))
          exact HT.out _ _ HB.out HF.out
        · have hd3 := decide_eq_false h3
          have HF := Lib.hid (show insI cd ⟨4, xp, sg, kd, xn, xs, tt⟩ p k last hh = none by unfold insI; dsimp only; rw [if_neg (by omega), if_neg (by omega), if_pos (.inr rfl), if_neg (fun hc => h3 hc.2.2)])
          go_enter Try.func22, Try.ntmps22
          go_wp2_with (go_at_call 12; refine (need_any _ _).mono ?_; rintro e w2 ⟨he, rfl⟩; obtain rfl := (show _ = _ by first | exact np_t he | exact np_f he))
          exact ⟨rfl, HP.out _ HB.out HF.out⟩
      · have hd2 := decide_eq_false h2
        have HF := Lib.hid (show insI cd ⟨4, xp, sg, kd, xn, xs, tt⟩ p k last hh = none by unfold insI; dsimp only; rw [if_neg (by omega), if_neg (by omega), if_pos (.inr rfl), if_neg (fun hc => h2 hc.2.1)])
        go_enter Try.func22, Try.ntmps22
        go_wp2_with (go_at_call 12; refine (need_any _ _).mono ?_; rintro e w2 ⟨he, rfl⟩; obtain rfl := (show _ = _ by first | exact np_t he | exact np_f he))
        exact ⟨rfl, HP.out _ HB.out HF.out⟩
    · have hd1 := decide_eq_false h1
      have HF := Lib.hid (show insI cd ⟨4, xp, sg, kd, xn, xs, tt⟩ p k last hh = none by unfold insI; dsimp only; rw [if_neg (by omega), if_neg (by omega), if_pos (.inr rfl), if_neg (fun hc => h1 hc.1)])
      go_enter Try.func22, Try.ntmps22
      go_wp2_with (go_at_call 12; refine (need_any _ _).mono ?_; rintro e w2 ⟨he, rfl⟩; obtain rfl := (show _ = _ by first | exact np_t he | exact np_f he))
      exact ⟨rfl, HP.out _ HB.out HF.out⟩
  · have HF := Lib.hid (show insI cd ⟨5, xp, sg, kd, xn, xs, tt⟩ p k last hh = some (0) by unfold insI; dsimp only; rw [if_neg (by omega), if_neg (by omega), if_neg (by omega), if_neg (by omega)])
    go_enter Try.func22, Try.ntmps22
    go_wp2_with (go_at_call 12; refine (need_any _ _).mono ?_; rintro e w2 ⟨he, rfl⟩; obtain rfl := (show _ = _ by first | exact np_t he | exact np_f he))
    exact HT.out _ _ HB.out HF.out

end Go.Proofs.Ythlcbjjeklkmfaa

