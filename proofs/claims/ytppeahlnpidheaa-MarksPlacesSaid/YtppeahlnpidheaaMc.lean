/- ref13: Parens. -/
import Derived.Test.YtppeahlnpidheaaMb
namespace Go.Proofs.Ytppeahlnpidheaa
open Go.RowKit

theorem mk_mem (st : Nat) (l : List UInt8) (p : Nat) : ∀ x ∈ mk st l p, p ≤ x.1 ∧ l[x.1 - p]? = some x.2 ∧ isMark x.2.toNat = true := by
  induction l generalizing st p with
  | nil => intro x hx; rw [mk_nil] at hx; cases hx
  | cons c r ih =>
    intro x hx
    have key : ∀ st', x ∈ mk st' r (p + 1) → p ≤ x.1 ∧ (c :: r)[x.1 - p]? = some x.2 ∧ isMark x.2.toNat = true := by
      intro st' h
      obtain ⟨h1, h2, h3⟩ := ih st' (p + 1) x h
      refine ⟨by omega, ?_, h3⟩
      rw [show x.1 - p = (x.1 - (p + 1)) + 1 by omega, List.getElem?_cons_succ]; exact h2
    rw [mk] at hx
    split at hx
    · exact key _ hx
    · split at hx
      · split at hx
        · exact key _ hx
        · split at hx
          · exact key _ hx
          · exact key _ hx
      · split at hx
        · exact key _ hx
        · split at hx
          · rename_i hm
            rcases List.mem_cons.1 hx with rfl | hx
            · exact ⟨Nat.le_refl _, by simp, hm⟩
            · exact key _ hx
          · exact key _ hx

theorem isMark_close {c : UInt8} (h : isMark c.toNat = true) (h1 : ¬ (c.toNat : Int) = 91) (h2 : ¬ (c.toNat : Int) = 123) (h3 : ¬ (c.toNat : Int) = 58) (h4 : ¬ (c.toNat : Int) = 44) : (c.toNat : Int) = 93 ∨ (c.toNat : Int) = 125 := by
  simp [isMark] at h; omega

set_option maxRecDepth 100000 in
set_option maxHeartbeats 2000000 in
theorem refParens_any (s : ByteArray) (w : World) (hs : s.size * 8 ≤ 140737488355328) :
    Calls Try.prog 16 #[.string s] w fun e w' => ∃ A c, e = .returned (.slice A (marksB s.data.toList).length c) ∧ Rd w' A ((marksB s.data.toList).map Value.bool) ∧ Bel w.heap.size w w' := by
  obtain ⟨i0, hi, hz0, hz1, hz2⟩ := info_parts info_bool2
  have HLL := Lib.hid (show s.data.toList.length = s.size by simp)
  have hML : (marksI s.data.toList).length = (mk 0 s.data.toList 0).length := by rw [marksI, List.length_map]
  have hMl : (mk 0 s.data.toList 0).length ≤ s.size := by have := mk_len 0 s.data.toList 0; rw [HLL.out] at this; exact this
  have HMM := Lib.hid (mk_mem 0 s.data.toList 0)
  have HMB := Lib.hid (show marksB s.data.toList = parB (mk 0 s.data.toList 0) from rfl)
  have hpc := fun w => refPlaces_any s w hs
  rw [hML] at hpc
  have HMI := Lib.hid (show marksI s.data.toList = (mk 0 s.data.toList 0).map (fun x => (x.1 : Int)) from rfl)
  generalize marksI s.data.toList = MI at *
  generalize mk 0 s.data.toList 0 = M at *
  generalize marksB s.data.toList = MB at *
  clear hML
  go_enter Try.func16, Try.ntmps16
  go_wp2_with (go_at_call 13; refine (hpc _).mono ?_; rintro e w1 ⟨A, cc, rfl, hrd, hb⟩; have HRD := Lib.hid hrd; have HB := Lib.hid hb; clear hrd hb)
  go_loopw [3, 5] (fun v i wr => ∃ k : Nat, k ≤ M.length ∧ i = .int .i64 k ∧ wr.ownsRow w1.heap.size 4 1 v (parB (M.take k)).length ((parB (M.take k)).map Value.bool) ∧ Below w1.heap.size w1 wr) (fun _ i _ => M.length - (intOf i).toNat)
  case atStart => exact ⟨0, by omega, rfl, World.ownsRow_nil _ _ _ _, Below.refl _ _⟩
  case round =>
    obtain ⟨k, hk, rfl, hrow, hb1⟩ := hrel
    have HR := Lib.hid hrow; have HB1 := Lib.hid hb1; clear hrow hb1
    by_cases hlt : k < M.length
    · obtain ⟨b, off, rfl, hbw, hc⟩ := HRD.out.pos (by rw [HMI.out]; simp; omega)
      have hcell := (HB1.out.cell (p := ⟨b, off + k, none⟩) hbw).trans (hc k (.int .i64 M[k].1) (by rw [HMI.out]; simp [hlt]))
      clear hc
      have HT := Lib.hid (show M.take (k + 1) = M.take k ++ [M[k]] by rw [List.take_succ_eq_append_getElem hlt])
      obtain ⟨_, hm2, hm3⟩ := HMM.out M[k] (List.getElem_mem hlt)
      generalize M[k] = x at *
      obtain ⟨p, ch⟩ := x
      dsimp only at hm2 hm3 hcell
      rw [Nat.sub_zero] at hm2
      have hp : p < s.size := by have := (List.getElem?_eq_some_iff.1 hm2).1; rw [HLL.out] at this; exact this
      have HCH := Lib.hid (show ch = s[p] by rw [List.getElem?_eq_getElem (by rw [HLL.out]; exact hp)] at hm2; exact (Option.some.inj hm2).symm)
      have HMK := Lib.hid hm3; clear hm2 hm3
      have hpb := parB_len (M.take k)
      have htk : (M.take k).length ≤ k := List.length_take_le _ _
      have hbz := HB1.out.size
      by_cases h91 : ((s[p].toNat : Int) == 91) = true
      · go_wp2_with (at_builtin; refine wpList_append_own _ rfl _ _ 32 rfl w1.heap.size 4 i0 (.bool false) 1 1 Try.underlying32 hi hz0 hz1 hz2 rfl (by decide) _ _ _ rfl (HR.out.alloc _) ⟨wr.heap.size, 0, none⟩ 2 2 [.bool true, .bool true] rfl rfl (cell_two_new _ _ _ _) (by simp [Value.oneCell']) (by unfold maxLen; omega) (by omega) (by simp; omega) ?_; intro v' w2 hown2 hgrow2 _; have HR2 := Lib.hid hown2; have HB2 := Lib.hid ((HB1.out.alloc hbz _).grown hgrow2 (by simp; omega) (fun j hj => (World.ownsRow.lt HR.out j hj).1)); clear hown2 hgrow2)
        go_roundw
        case rel => exact ⟨k + 1, by omega, by go_num, by rw [HT.out, parB_open _ _ (.inl (by rw [HCH.out]; exact (by first | omega | (simp only [beq_iff_eq] at *; omega) | (simp only [beq_eq_false_iff_ne, ne_eq] at *; omega) | (simp only [bne_iff_ne, ne_eq] at *; omega) | (simp only [bne_eq_false_iff_eq] at *; omega))))]; simpa using HR2.out, HB2.out⟩
        case measure => simp [intOf] <;> omega
      · have h91 : ((s[p].toNat : Int) == 91) = false := by simpa using h91
        by_cases h123 : ((s[p].toNat : Int) == 123) = true
        · go_wp2_with (at_builtin; refine wpList_append_own _ rfl _ _ 32 rfl w1.heap.size 4 i0 (.bool false) 1 1 Try.underlying32 hi hz0 hz1 hz2 rfl (by decide) _ _ _ rfl (HR.out.alloc _) ⟨wr.heap.size, 0, none⟩ 2 2 [.bool true, .bool true] rfl rfl (cell_two_new _ _ _ _) (by simp [Value.oneCell']) (by unfold maxLen; omega) (by omega) (by simp; omega) ?_; intro v' w2 hown2 hgrow2 _; have HR2 := Lib.hid hown2; have HB2 := Lib.hid ((HB1.out.alloc hbz _).grown hgrow2 (by simp; omega) (fun j hj => (World.ownsRow.lt HR.out j hj).1)); clear hown2 hgrow2)
          go_roundw
          case rel => exact ⟨k + 1, by omega, by go_num, by rw [HT.out, parB_open _ _ (.inr (by rw [HCH.out]; exact (by first | omega | (simp only [beq_iff_eq] at *; omega) | (simp only [beq_eq_false_iff_ne, ne_eq] at *; omega) | (simp only [bne_iff_ne, ne_eq] at *; omega) | (simp only [bne_eq_false_iff_eq] at *; omega))))]; simpa using HR2.out, HB2.out⟩
          case measure => simp [intOf] <;> omega
        · have h123 : ((s[p].toNat : Int) == 123) = false := by simpa using h123
          by_cases h58 : ((s[p].toNat : Int) == 58) = true
          · go_wp2_with (at_builtin; refine wpList_append_own _ rfl _ _ 32 rfl w1.heap.size 4 i0 (.bool false) 1 1 Try.underlying32 hi hz0 hz1 hz2 rfl (by decide) _ _ _ rfl (HR.out.alloc _) ⟨wr.heap.size, 0, none⟩ 2 2 [.bool false, .bool true] rfl rfl (cell_two_new _ _ _ _) (by simp [Value.oneCell']) (by unfold maxLen; omega) (by omega) (by simp; omega) ?_; intro v' w2 hown2 hgrow2 _; have HR2 := Lib.hid hown2; have HB2 := Lib.hid ((HB1.out.alloc hbz _).grown hgrow2 (by simp; omega) (fun j hj => (World.ownsRow.lt HR.out j hj).1)); clear hown2 hgrow2)
            go_roundw
            case rel => exact ⟨k + 1, by omega, by go_num, by rw [HT.out, parB_other _ _ (by rw [HCH.out]; exact (by first | omega | (simp only [beq_iff_eq] at *; omega) | (simp only [beq_eq_false_iff_ne, ne_eq] at *; omega) | (simp only [bne_iff_ne, ne_eq] at *; omega) | (simp only [bne_eq_false_iff_eq] at *; omega))) (by rw [HCH.out]; exact (by first | omega | (simp only [beq_iff_eq] at *; omega) | (simp only [beq_eq_false_iff_ne, ne_eq] at *; omega) | (simp only [bne_iff_ne, ne_eq] at *; omega) | (simp only [bne_eq_false_iff_eq] at *; omega))) (by rw [HCH.out]; exact (by first | omega | (simp only [beq_iff_eq] at *; omega) | (simp only [beq_eq_false_iff_ne, ne_eq] at *; omega) | (simp only [bne_iff_ne, ne_eq] at *; omega) | (simp only [bne_eq_false_iff_eq] at *; omega))) (by rw [HCH.out]; exact (by first | omega | (simp only [beq_iff_eq] at *; omega) | (simp only [beq_eq_false_iff_ne, ne_eq] at *; omega) | (simp only [bne_iff_ne, ne_eq] at *; omega) | (simp only [bne_eq_false_iff_eq] at *; omega)))]; simpa using HR2.out, HB2.out⟩
            case measure => simp [intOf] <;> omega
          · have h58 : ((s[p].toNat : Int) == 58) = false := by simpa using h58
            by_cases h44 : ((s[p].toNat : Int) == 44) = true
            · go_wp2_with (at_builtin; refine wpList_append_own _ rfl _ _ 32 rfl w1.heap.size 4 i0 (.bool false) 1 1 Try.underlying32 hi hz0 hz1 hz2 rfl (by decide) _ _ _ rfl (HR.out.alloc _) ⟨wr.heap.size, 0, none⟩ 2 2 [.bool false, .bool true] rfl rfl (cell_two_new _ _ _ _) (by simp [Value.oneCell']) (by unfold maxLen; omega) (by omega) (by simp; omega) ?_; intro v' w2 hown2 hgrow2 _; have HR2 := Lib.hid hown2; have HB2 := Lib.hid ((HB1.out.alloc hbz _).grown hgrow2 (by simp; omega) (fun j hj => (World.ownsRow.lt HR.out j hj).1)); clear hown2 hgrow2)
              go_roundw
              case rel => exact ⟨k + 1, by omega, by go_num, by rw [HT.out, parB_other _ _ (by rw [HCH.out]; exact (by first | omega | (simp only [beq_iff_eq] at *; omega) | (simp only [beq_eq_false_iff_ne, ne_eq] at *; omega) | (simp only [bne_iff_ne, ne_eq] at *; omega) | (simp only [bne_eq_false_iff_eq] at *; omega))) (by rw [HCH.out]; exact (by first | omega | (simp only [beq_iff_eq] at *; omega) | (simp only [beq_eq_false_iff_ne, ne_eq] at *; omega) | (simp only [bne_iff_ne, ne_eq] at *; omega) | (simp only [bne_eq_false_iff_eq] at *; omega))) (by rw [HCH.out]; exact (by first | omega | (simp only [beq_iff_eq] at *; omega) | (simp only [beq_eq_false_iff_ne, ne_eq] at *; omega) | (simp only [bne_iff_ne, ne_eq] at *; omega) | (simp only [bne_eq_false_iff_eq] at *; omega))) (by rw [HCH.out]; exact (by first | omega | (simp only [beq_iff_eq] at *; omega) | (simp only [beq_eq_false_iff_ne, ne_eq] at *; omega) | (simp only [bne_iff_ne, ne_eq] at *; omega) | (simp only [bne_eq_false_iff_eq] at *; omega)))]; simpa using HR2.out, HB2.out⟩
              case measure => simp [intOf] <;> omega
            · have h44 : ((s[p].toNat : Int) == 44) = false := by simpa using h44
              go_wp2_with (at_builtin; refine wpList_append_own _ rfl _ _ 32 rfl w1.heap.size 4 i0 (.bool false) 1 1 Try.underlying32 hi hz0 hz1 hz2 rfl (by decide) _ _ _ rfl (HR.out.alloc _) ⟨wr.heap.size, 0, none⟩ 2 2 [.bool false, .bool false] rfl rfl (cell_two_new _ _ _ _) (by simp [Value.oneCell']) (by unfold maxLen; omega) (by omega) (by simp; omega) ?_; intro v' w2 hown2 hgrow2 _; have HR2 := Lib.hid hown2; have HB2 := Lib.hid ((HB1.out.alloc hbz _).grown hgrow2 (by simp; omega) (fun j hj => (World.ownsRow.lt HR.out j hj).1)); clear hown2 hgrow2)
              go_roundw
              case rel => exact ⟨k + 1, by omega, by go_num, by rw [HT.out, parB_close _ _ (isMark_close HMK.out (by rw [HCH.out]; exact (by first | omega | (simp only [beq_iff_eq] at *; omega) | (simp only [beq_eq_false_iff_ne, ne_eq] at *; omega) | (simp only [bne_iff_ne, ne_eq] at *; omega) | (simp only [bne_eq_false_iff_eq] at *; omega))) (by rw [HCH.out]; exact (by first | omega | (simp only [beq_iff_eq] at *; omega) | (simp only [beq_eq_false_iff_ne, ne_eq] at *; omega) | (simp only [bne_iff_ne, ne_eq] at *; omega) | (simp only [bne_eq_false_iff_eq] at *; omega))) (by rw [HCH.out]; exact (by first | omega | (simp only [beq_iff_eq] at *; omega) | (simp only [beq_eq_false_iff_ne, ne_eq] at *; omega) | (simp only [bne_iff_ne, ne_eq] at *; omega) | (simp only [bne_eq_false_iff_eq] at *; omega))) (by rw [HCH.out]; exact (by first | omega | (simp only [beq_iff_eq] at *; omega) | (simp only [beq_eq_false_iff_ne, ne_eq] at *; omega) | (simp only [bne_iff_ne, ne_eq] at *; omega) | (simp only [bne_eq_false_iff_eq] at *; omega))))]; simpa using HR2.out, HB2.out⟩
              case measure => simp [intOf] <;> omega
    · go_wp2
      go_ret
      obtain ⟨A', c', hv, hl, hrd, _⟩ := Rd.of_own HR.out
      have e1 : M.take k = M := List.take_of_length_le (by omega)
      rw [e1] at hv hl hrd
      refine ⟨A', c', ?_, ?_, (HB.out).trans (Bel.of (HB1.out.mono HB.out.size))⟩
      · rw [HMB.out]; rw [hl] at hv
        exact congrArg Ending.returned hv
      · rw [HMB.out]; exact hrd

end Go.Proofs.Ytppeahlnpidheaa
