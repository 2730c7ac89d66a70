/- VerifyTells: walk. -/
import Derived.Test.YthlcbjjeklkmfaaVn
import Derived.Deep.RegionHeld3
import Derived.Test.YthlcbjjeklkmfaaVv
namespace Go.Proofs.Ythlcbjjeklkmfaa
open Go.RowKit

set_option maxRecDepth 100000 in
set_option maxHeartbeats 2000000 in
theorem tells_any (A1 A2 A3 A4 : Option Addr) (c1 c2 c3 c4 : Nat) (cd : CodeD) (p : Int) (w : World) (h : CM w A1 A2 A3 A4 cd) (l1 : cd.ps.length ≤ maxLen) (l2 : cd.gs.length ≤ maxLen) (l3 : cd.ss.length ≤ maxLen) (l4 : cd.is.length ≤ maxLen) (lc2 : cd.gs.length ≤ c2) (lc3 : cd.ss.length ≤ c3) :
    Calls Try.prog 4 #[.agg #[.slice A1 cd.ps.length c1, .slice A2 cd.gs.length c2, .slice A3 cd.ss.length c3, .slice A4 cd.is.length c4], .int .i64 p] w fun e w' => e = .returned (.bool true) ∧ Bel w.heap.size w w' := by
  have HFS0 := Lib.hid (show FSt w (w.alloc (.cells #[.slice A1 cd.ps.length c1, .slice A2 cd.gs.length c2, .slice A3 cd.ss.length c3, .slice A4 cd.is.length c4] 27)) #[.slice A1 cd.ps.length c1, .slice A2 cd.gs.length c2, .slice A3 cd.ss.length c3, .slice A4 cd.is.length c4] A1 A2 A3 A4 cd from ⟨Blk.new _ _ _, h.bel ((Bel.refl _ _).alloc (Nat.le_refl _) _), (Bel.refl _ _).alloc (Nat.le_refl _) _⟩)
  have hfew := fun w h => few_any A1 A2 A3 A4 c1 c2 c3 c4 cd w h l1 l2 l3 l4
  unfold FewP at hfew
  clear h l1 l2 l3 l4
  go_enter Try.func4, Try.ntmps4
  go_wp2_with (go_at_call 5; refine (awake_any _).mono ?_; rintro e w1 ⟨rfl, hb⟩; have HFS1 := Lib.hid (HFS0.out.bel hb); clear hb; obtain ⟨xsz, ⟨x0, x1, x2, x3⟩, y0, y1, y2, y3⟩ := HFS1.out.1.four)
  refine (hfew _ HFS1.out.2.1).mono ?_
  rintro e w2 ⟨b, rfl, hn, hb⟩
  have HFS2 := Lib.hid (HFS1.out.bel hb)
  clear hb HFS1 xsz x0 x1 x2 x3 y0 y1 y2 y3
  simp only
  cases b with
  | false =>
    clear hn
    go_wp2_with (go_at_call 5; refine (awake_any _).mono ?_; rintro e w3 ⟨rfl, hb⟩; have HFS3 := Lib.hid (HFS2.out.bel hb); clear hb)
    go_ret
    exact ⟨rfl, HFS3.out.2.2⟩
  | true =>
    obtain ⟨l1, l2, l3, l4⟩ := hn rfl
    clear hn hfew
    have h1 := fun w h => psound_any A1 A2 A3 A4 c1 c2 c3 c4 cd w h (by omega) (by omega) (by omega) (by omega) lc2 lc3
    have h2 := fun w h => rsound_any A1 A2 A3 A4 c1 c2 c3 c4 cd w h (by omega) (by omega) (by omega) (by omega)
    have h3 := fun w h => psing_any A1 A2 A3 A4 c1 c2 c3 c4 cd p w h (by omega) (by omega) (by omega) lc2
    have h4 := fun w h => rsing_any A1 A2 A3 A4 c1 c2 c3 c4 cd p w h (by omega) (by omega) (by omega)
    obtain ⟨s, hs⟩ : ∃ s, soundL cd = s := ⟨_, rfl⟩
    obtain ⟨q, hq⟩ : ∃ q, singleOK cd p = q := ⟨_, rfl⟩
    rw [hs] at h1 h2
    rw [hq] at h3 h4
    have HS := HFS2
    obtain ⟨xsz, ⟨x0, x1, x2, x3⟩, y0, y1, y2, y3⟩ := HS.out.1.four
    clear hs hq HFS2 lc2 lc3 l1 l2 l3 l4
    go_upto_region 3 with fail
    have HK := Lib.hid (show ∀ w', FSt w w' #[.slice A1 cd.ps.length c1, .slice A2 cd.gs.length c2, .slice A3 cd.ss.length c3, .slice A4 cd.is.length c4] A1 A2 A3 A4 cd → (w'.cell? ⟨w.heap.size, 0, none⟩ = some (.slice A1 cd.ps.length c1) ∧ w'.cell? ⟨w.heap.size, 1, none⟩ = some (.slice A2 cd.gs.length c2) ∧ w'.cell? ⟨w.heap.size, 2, none⟩ = some (.slice A3 cd.ss.length c3) ∧ w'.cell? ⟨w.heap.size, 3, none⟩ = some (.slice A4 cd.is.length c4) ∧ w.heap.size < w'.heap.size ∧ Hid (FSt w w' #[.slice A1 cd.ps.length c1, .slice A2 cd.gs.length c2, .slice A3 cd.ss.length c3, .slice A4 cd.is.length c4] A1 A2 A3 A4 cd)) from fun w' hh => ⟨hh.1.cell 0, hh.1.cell 1, hh.1.cell 2, hh.1.cell 3, hh.1.lt, Lib.hid hh⟩)
    have HSn := HS
    clear HS
    cases s <;> cases q
    all_goals
      go_region_held3 (fun w' => w'.cell? ⟨w.heap.size, 0, none⟩ = some (.slice A1 cd.ps.length c1) ∧ w'.cell? ⟨w.heap.size, 1, none⟩ = some (.slice A2 cd.gs.length c2) ∧ w'.cell? ⟨w.heap.size, 2, none⟩ = some (.slice A3 cd.ss.length c3) ∧ w'.cell? ⟨w.heap.size, 3, none⟩ = some (.slice A4 cd.is.length c4) ∧ w.heap.size < w'.heap.size ∧ Hid (FSt w w' #[.slice A1 cd.ps.length c1, .slice A2 cd.gs.length c2, .slice A3 cd.ss.length c3, .slice A4 cd.is.length c4] A1 A2 A3 A4 cd))
        (first
          | (exact HK.out _ HSn.out)
          | (exact HK.out _ (HSn.out.bel (Bel.refl _ _).drew))
          | (go_split_ands; exact HK.out _ ((show Hid (FSt w _ #[.slice A1 cd.ps.length c1, .slice A2 cd.gs.length c2, .slice A3 cd.ss.length c3, .slice A4 cd.is.length c4] A1 A2 A3 A4 cd) by assumption).out.bel (Bel.refl _ _).drew)))
        (first
          | (go_at_call 7; go_split_ands; refine (h1 _ (show Hid (FSt w _ #[.slice A1 cd.ps.length c1, .slice A2 cd.gs.length c2, .slice A3 cd.ss.length c3, .slice A4 cd.is.length c4] A1 A2 A3 A4 cd) by assumption).out.2.1).mono ?_; rintro e w3 ⟨rfl, hb⟩; have HSn := Lib.hid ((show Hid (FSt w _ #[.slice A1 cd.ps.length c1, .slice A2 cd.gs.length c2, .slice A3 cd.ss.length c3, .slice A4 cd.is.length c4] A1 A2 A3 A4 cd) by assumption).out.bel hb); clear hb)
          | (go_at_call 8; go_split_ands; refine (h2 _ (show Hid (FSt w _ #[.slice A1 cd.ps.length c1, .slice A2 cd.gs.length c2, .slice A3 cd.ss.length c3, .slice A4 cd.is.length c4] A1 A2 A3 A4 cd) by assumption).out.2.1).mono ?_; rintro e w3 ⟨rfl, hb⟩; have HSn := Lib.hid ((show Hid (FSt w _ #[.slice A1 cd.ps.length c1, .slice A2 cd.gs.length c2, .slice A3 cd.ss.length c3, .slice A4 cd.is.length c4] A1 A2 A3 A4 cd) by assumption).out.bel hb); clear hb)
          | (go_at_call 9; go_split_ands; refine (h3 _ (show Hid (FSt w _ #[.slice A1 cd.ps.length c1, .slice A2 cd.gs.length c2, .slice A3 cd.ss.length c3, .slice A4 cd.is.length c4] A1 A2 A3 A4 cd) by assumption).out.2.1).mono ?_; rintro e w3 ⟨rfl, hb⟩; have HSn := Lib.hid ((show Hid (FSt w _ #[.slice A1 cd.ps.length c1, .slice A2 cd.gs.length c2, .slice A3 cd.ss.length c3, .slice A4 cd.is.length c4] A1 A2 A3 A4 cd) by assumption).out.bel hb); clear hb)
          | (go_at_call 10; go_split_ands; refine (h4 _ (show Hid (FSt w _ #[.slice A1 cd.ps.length c1, .slice A2 cd.gs.length c2, .slice A3 cd.ss.length c3, .slice A4 cd.is.length c4] A1 A2 A3 A4 cd) by assumption).out.2.1).mono ?_; rintro e w3 ⟨rfl, hb⟩; have HSn := Lib.hid ((show Hid (FSt w _ #[.slice A1 cd.ps.length c1, .slice A2 cd.gs.length c2, .slice A3 cd.ss.length c3, .slice A4 cd.is.length c4] A1 A2 A3 A4 cd) by assumption).out.bel hb); clear hb))
      go_split_ands
      go_wp2
      go_ret
      exact ⟨rfl, (show Hid (FSt w _ #[.slice A1 cd.ps.length c1, .slice A2 cd.gs.length c2, .slice A3 cd.ss.length c3, .slice A4 cd.is.length c4] A1 A2 A3 A4 cd) by assumption).out.2.2⟩

end Go.Proofs.Ythlcbjjeklkmfaa
