/- ref13: Is, Inside. -/
import Derived.Handy
import Derived.Test.YtppeahlnpidheaaJs
import Derived.Test.YtppeahlnpidheaaMa0
import Derived.Test.YtppeahlnpidheaaJc
namespace Go.Proofs.Ytppeahlnpidheaa
open Go.RowKit

set_option maxHeartbeats 1000000 in
theorem refIs_any (c : Int) (w : World) :
    Calls Try.prog 12 #[.int .u8 c] w fun e w' => e = .returned (.bool (isMark c)) ∧ w = w' := by
  unfold isMark
  have k0 : ((({ data := #[91, 93, 123, 125, 58, 44] } : ByteArray)[0]'(by decide)).toNat : Int) = 91 := rfl
  have k1 : ((({ data := #[91, 93, 123, 125, 58, 44] } : ByteArray)[1]'(by decide)).toNat : Int) = 93 := rfl
  have k2 : ((({ data := #[91, 93, 123, 125, 58, 44] } : ByteArray)[2]'(by decide)).toNat : Int) = 123 := rfl
  have k3 : ((({ data := #[91, 93, 123, 125, 58, 44] } : ByteArray)[3]'(by decide)).toNat : Int) = 125 := rfl
  have k4 : ((({ data := #[91, 93, 123, 125, 58, 44] } : ByteArray)[4]'(by decide)).toNat : Int) = 58 := rfl
  have k5 : ((({ data := #[91, 93, 123, 125, 58, 44] } : ByteArray)[5]'(by decide)).toNat : Int) = 44 := rfl
  go_enter Try.func12, Try.ntmps12
  go_wp2
  go_rounds 7
  all_goals (go_ret; exact ⟨ret_bool (by refine Bool.eq_iff_iff.2 ?_; simp only [Bool.or_eq_true, beq_iff_eq, beq_eq_false_iff_ne, ne_eq] at *; first | (simp; omega) | omega), rfl⟩)

theorem info_bool2 : (Try.prog.info? 4).map (fun i => (i.zero, i.size, i.bytes)) = some (some (.bool false), 1, 1) := by kernel_rfl

def OWN (w0 : World) (wr : World) (n : Nat) (xs : List Bool) : Prop := wr.ownsRow w0.heap.size 4 1 (.slice (some ⟨w0.heap.size, 0, none⟩) n n) n (xs.map Value.bool)
theorem OWN.at_ {w0 wr : World} {n : Nat} {xs : List Bool} (h : OWN w0 wr n xs) (k : Nat) (hk : k < n) (hl : xs.length = n) : wr.cell? ⟨w0.heap.size, k, none⟩ = some (.bool (xs[k]'(by omega))) ∧ wr.frozen? ⟨w0.heap.size, k, none⟩ = false := by
  constructor
  · rw [World.ownsRow.cellAt h k (by omega), List.getElem?_map, List.getElem?_eq_getElem (by omega)]; rfl
  · exact World.ownsRow.frozenAt h k
theorem OWN.set_ {w0 wr : World} {n : Nat} {xs : List Bool} (h : OWN w0 wr n xs) (k : Nat) (b : Bool) : OWN w0 (wr.setCell ⟨w0.heap.size, k, none⟩ (.bool b)) n (xs.set k b) := by
  have := (World.ownsRow.stored h k (.bool b)).1
  unfold OWN; rw [List.map_set]; exact this

set_option maxRecDepth 100000 in
set_option maxHeartbeats 2000000 in
theorem inside_any (s : ByteArray) (w : World) (hs : s.size ≤ 140737488355328) :
    Calls Try.prog 24 #[.string s] w fun e w' => e = .returned (.slice (some ⟨w.heap.size, 0, none⟩) s.size s.size) ∧ OWN w w' s.size (ins 0 s.data.toList) ∧ Below w.heap.size w w' := by
  obtain ⟨i0, hi, hz0, hz1, hz2⟩ := info_parts info_bool2
  have hll : s.data.toList.length = s.size := by simp
  have HLL := Lib.hid hll; clear hll
  go_enter Try.func24, Try.ntmps24
  go_wp2_with (at_make; refine wpList_make_full _ rfl _ _ 32 rfl w.heap.size 4 i0 (.bool false) 1 Try.underlying32 hi hz0 hz1 .i64 .i64 s.size s.size s.size rfl rfl rfl rfl (by rw [hz2]; omega) (by unfold maxLen; omega) (Nat.le_refl _) ?_; intro w1 hown hgrow)
  have hown0 : OWN w w1 s.size (insTo s.data.toList 0) := by
    unfold OWN
    rw [insTo_zero, List.map_replicate, HLL.out]
    simpa [madeCells, Value.cells, Nat.mod_one, List.map_const'] using hown
  have hb0 : Below w.heap.size w w1 := (Below.refl _ _).grown hgrow (Nat.le_refl _) (by intro k h; cases h)
  go_loopw [4] (fun i wr => ∃ k : Nat, k ≤ s.size + 1 ∧ i = .int .i64 k ∧ OWN w wr s.size (insTo s.data.toList k) ∧ St s.data.toList 0 k ∧ Below w.heap.size w wr) (fun i _ => s.size + 1 - (intOf i).toNat)
  case atStart => exact ⟨0, by omega, rfl, hown0, St.start _, hb0⟩
  case round =>
    clear hown0 hb0 hown hgrow
    obtain ⟨k, hk, rfl, ho, hst, hb⟩ := hrel
    have HO := Lib.hid ho; have HST := Lib.hid hst; have HB := Lib.hid hb; clear ho hst hb
    by_cases hlt : k < s.size
    · have HD := Lib.hid (drop_cons s k hlt)
      have hdk : decide (k < s.size) = true := by simp; omega
      by_cases hq : ((s[k].toNat : Int) != 34) = true
      · have HSF := Lib.hid (HST.out.out_other HD.out (fun e => by rw [e] at hq; exact absurd hq (by decide)))
        go_wp2
        go_roundw
        case rel => exact ⟨k + 1, by omega, by go_num, by rw [insTo_false (by rw [HLL.out]; exact hlt) HSF.out.1]; exact HO.out, HSF.out.2, HB.out⟩
        case measure => simp [intOf] <;> omega
      · have hq : ((s[k].toNat : Int) != 34) = false := by simpa using hq
        have HQ := Lib.hid (show s[k] = 34 from byte_of s[k] 34 (by have := bne_eq_false_iff_eq.1 hq; omega))
        have HSF := Lib.hid (HST.out.out_quote (by rw [HD.out, HQ.out]))
        obtain ⟨c1, c2⟩ := HO.out.at_ k hlt (by rw [insTo_len, HLL.out])
        have HO1 := Lib.hid (HO.out.set_ k true)
        have HB1 := Lib.hid (HB.out.setCell (p := ⟨w.heap.size, k, none⟩) (Nat.le_refl _) (.bool true))
        go_wp2
        go_loopw [4] (fun i wr => ∃ j : Nat, k + 1 ≤ j ∧ j ≤ s.size ∧ i = .int .i64 j ∧ OWN w wr s.size (insTo s.data.toList j) ∧ St s.data.toList 1 j ∧ Below w.heap.size w wr) (fun i _ => s.size - (intOf i).toNat)
        case atStart => exact ⟨k + 1, by omega, by omega, by go_num, by rw [← insTo_true (show k < s.data.toList.length by rw [HLL.out]; exact hlt) HSF.out.1]; exact HO1.out, HSF.out.2, HB1.out⟩
        case round =>
          clear c1 c2
          obtain ⟨j, hkj, hj, rfl, ho2, hst2, hb2⟩ := hrel
          have HO2 := Lib.hid ho2; have HST2 := Lib.hid hst2; have HB2 := Lib.hid hb2; clear ho2 hst2 hb2
          by_cases hjl : j < s.size
          · have HJ := Lib.hid (drop_cons s j hjl)
            have hdj : decide (j < s.size) = true := by simp; omega
            obtain ⟨c1, c2⟩ := HO2.out.at_ j hjl (by rw [insTo_len, HLL.out])
            have HO3 := Lib.hid (HO2.out.set_ j true)
            have HB3 := Lib.hid (HB2.out.setCell (p := ⟨w.heap.size, j, none⟩) (Nat.le_refl _) (.bool true))
            by_cases j34 : ((s[j].toNat : Int) != 34) = true
            · have J34 := Lib.hid (show s[j] ≠ 34 from fun e => by rw [e] at j34; exact absurd j34 (by decide))
              by_cases j92 : ((s[j].toNat : Int) == 92) = true
              · have J92 := Lib.hid (show s[j] = 92 from byte_of s[j] 92 (by have := beq_iff_eq.1 j92; omega))
                have HS3 := Lib.hid (HST2.out.in_back (by rw [HJ.out, J92.out]))
                by_cases hj1 : j + 1 < s.size
                · have hd1 : decide ((j : Int) < s.size - 1) = true := by simp; omega
                  have HJ1 := Lib.hid (drop_cons s (j + 1) hj1)
                  have HS4 := Lib.hid (HS3.out.2.esc HJ1.out)
                  obtain ⟨c3, c4⟩ := HO2.out.at_ (j + 1) hj1 (by rw [insTo_len, HLL.out])
                  have HO4 := Lib.hid (HO3.out.set_ (j + 1) true)
                  have HB4 := Lib.hid (HB3.out.setCell (p := ⟨w.heap.size, j + 1, none⟩) (Nat.le_refl _) (.bool true))
                  go_wp2
                  go_roundw
                  case rel => exact ⟨j + 1 + 1, by omega, by omega, by go_num, by rw [← insTo_true (show j + 1 < s.data.toList.length by rw [HLL.out]; exact hj1) HS4.out.1, ← insTo_true (show j < s.data.toList.length by rw [HLL.out]; exact hjl) HS3.out.1]; exact HO4.out, HS4.out.2, HB4.out⟩
                  case measure => simp [intOf] <;> omega
                · have hd1 : decide ((j : Int) < s.size - 1) = false := by simp; omega
                  go_wp2
                  go_roundw
                  case rel => exact ⟨j + 1, by omega, by omega, by go_num, by rw [← insTo_true (show j < s.data.toList.length by rw [HLL.out]; exact hjl) HS3.out.1]; exact HO3.out, HS3.out.2.end_ (by rw [HLL.out]; omega), HB3.out⟩
                  case measure => simp [intOf] <;> omega
              · have j92 : ((s[j].toNat : Int) == 92) = false := by simpa using j92
                have HS3 := Lib.hid (HST2.out.in_other HJ.out J34.out (fun e => by rw [e] at j92; exact absurd j92 (by decide)))
                go_wp2
                go_roundw
                case rel => exact ⟨j + 1, by omega, by omega, by go_num, by rw [← insTo_true (show j < s.data.toList.length by rw [HLL.out]; exact hjl) HS3.out.1]; exact HO3.out, HS3.out.2, HB3.out⟩
                case measure => simp [intOf] <;> omega
            · have j34 : ((s[j].toNat : Int) != 34) = false := by simpa using j34
              have J34 := Lib.hid (show s[j] = 34 from byte_of s[j] 34 (by have := bne_eq_false_iff_eq.1 j34; omega))
              have HS3 := Lib.hid (HST2.out.in_quote (by rw [HJ.out, J34.out]))
              go_wp2
              go_roundw
              case rel => exact ⟨j + 1, by omega, by go_num, by rw [← insTo_true (show j < s.data.toList.length by rw [HLL.out]; exact hjl) HS3.out.1]; exact HO3.out, HS3.out.2, HB3.out⟩
              case measure => simp [intOf] <;> omega
          · go_wp2
            go_roundw
            case rel => exact ⟨j + 1, by omega, by go_num, by rw [insTo_end _ _ (by rw [HLL.out]; omega), ← insTo_end s.data.toList j (by rw [HLL.out]; omega)]; exact HO2.out, (HST2.out.end_ (st' := 0) (by rw [HLL.out]; omega) |> fun h => by unfold St at *; rw [List.drop_of_length_le (by rw [ins_len, HLL.out]; omega), List.drop_of_length_le (by rw [HLL.out]; omega), ins_nil]), HB2.out⟩
            case measure => simp [intOf] <;> omega
    · go_wp2
      go_ret
      exact ⟨rfl, by rw [← insTo_end s.data.toList k (by rw [HLL.out]; omega)]; exact HO.out, HB.out⟩

end Go.Proofs.Ytppeahlnpidheaa
