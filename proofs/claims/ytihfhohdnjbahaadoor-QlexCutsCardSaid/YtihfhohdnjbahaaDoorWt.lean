/- ref16.Same, walked (where the lists are the same). -/
import Derived.Test.YtihfhohdnjbahaaDoorUq
import Derived.RegionTactic
import Derived.ChangeAlike
namespace Go.Proofs.YtihfhohdnjbahaaDoor
open Go.RowKit

set_option maxRecDepth 100000 in
set_option maxHeartbeats 4000000 in
theorem same_any (A B : Option Addr) (la lb : List TokD) (n ca cb : Nat) (sw : Bool) (w : World) (hA : TkR w A la) (hB : TkR w B lb) (hla : la.length = n) (hlb : lb.length = n) (hn : n ≤ 1000000)
    (h : ∀ (i : Nat) (x y : TokD), la[i]? = some x → lb[i]? = some y → x.kind = y.kind ∧ x.s = y.s ∧ x.n = y.n ∧ (sw = true → x.at_ = y.at_ ∧ x.gap = y.gap)) :
    Calls Tryd.prog 10 #[.slice A n ca, .slice B n cb, .bool sw] w fun e w' => e = .returned (.bool true) ∧ Bel w.heap.size w w' := by
  have HA := Lib.hid hA
  have HB := Lib.hid hB
  have HH := Lib.hid h
  have HW := Lib.hid (Bel.refl w.heap.size w)
  have HLA := Lib.hid hla
  have HLB := Lib.hid hlb
  clear hA hB h hla hlb
  go_enter Tryd.func10, Tryd.ntmps10
  go_wp2
  go_loopg [7] n (fun k v wr => ∃ i : Nat, k = n - i ∧ i ≤ n ∧ v = .int .i64 i ∧ Hid (Bel w.heap.size w wr))
  case atStart => exact ⟨0, by omega, by omega, rfl, HW⟩
  case round =>
    clear HW
    obtain ⟨i, hgk, hi, rfl, HW⟩ := hrel
    have HGK := Lib.hid hgk; clear hgk
    by_cases hlt : i < n
    · obtain ⟨b, off, rfl, hbl, hc⟩ := HA.out.resolve_left (by intro e; have := HLA.out; rw [e] at this; simp at this; omega)
      obtain ⟨b2, off2, rfl, hbl2, hc2⟩ := HB.out.resolve_left (by intro e; have := HLB.out; rw [e] at this; simp at this; omega)
      obtain ⟨x, hx⟩ : ∃ x, la[i]? = some x := ⟨_, List.getElem?_eq_getElem (by have := HLA.out; omega)⟩
      obtain ⟨y, hy⟩ : ∃ y, lb[i]? = some y := ⟨_, List.getElem?_eq_getElem (by have := HLB.out; omega)⟩
      obtain ⟨d0, d1, d2, d3, d4⟩ := hc i x hx
      obtain ⟨f0, f1, f2, f3, f4⟩ := hc2 i y hy
      obtain ⟨e1, e2, e3, e4⟩ := HH.out i x y hx hy
      rw [← e1] at f0
      rw [← e2] at f1
      rw [← e3] at f2
      rw [← HW.out.cell (p := ⟨b, _, none⟩) hbl] at d0 d1 d2 d3 d4
      rw [← HW.out.cell (p := ⟨b2, _, none⟩) hbl2] at f0 f1 f2 f3 f4
      clear e1 e2 e3 hc hc2 hx hy
      have hbr : b < wr.heap.size := Nat.lt_of_lt_of_le hbl HW.out.size
      have hbr2 : b2 < wr.heap.size := Nat.lt_of_lt_of_le hbl2 HW.out.size
      cases sw with
      | false =>
        clear e4
        go_upto_region 6 with fail
        go_region
        all_goals
          clear d0 d1 d2 d3 d4 f0 f1 f2 f3 f4 hbr hbr2
          go_wp2
          go_roundg (n - (i + 1))
          case measure => have := HGK.out; simp; omega
          case rel => exact ⟨i + 1, rfl, by omega, by simp, by exact Lib.hid (((HW.out.alloc HW.out.size _).alloc (by have := HW.out.size; simp; omega) _).drew)⟩
      | true =>
        obtain ⟨e5, e6⟩ := e4 rfl
        rw [← e5] at f3
        rw [← e6] at f4
        clear e4 e5 e6
        go_upto_region 6 with fail
        go_region
        all_goals
          clear d0 d1 d2 d3 d4 f0 f1 f2 f3 f4 hbr hbr2
          go_wp2
          go_roundg (n - (i + 1))
          case measure => have := HGK.out; simp; omega
          case rel => exact ⟨i + 1, rfl, by omega, by simp, by exact Lib.hid (((HW.out.alloc HW.out.size _).alloc (by have := HW.out.size; simp; omega) _).drew)⟩
    · go_wp2
      go_ret
      exact ⟨rfl, HW.out⟩

end Go.Proofs.YtihfhohdnjbahaaDoor
