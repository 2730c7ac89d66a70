/- ref13: Places, Parens. -/
import Derived.Maps.AppendAt
import Derived.WalkSmall
import Derived.Test.YtppeahlnpidheaaMa
import Derived.Test.YtppeahlnpidheaaLb
namespace Go.Proofs.Ytppeahlnpidheaa
open Go.RowKit

theorem info_int2 : (Try.prog.info? 3).map (fun i => (i.zero, i.size, i.bytes)) = some (some (.int .i64 0), 1, 8) := by kernel_rfl

theorem OWN.lt {w0 wr : World} {n : Nat} {xs : List Bool} (h : OWN w0 wr n xs) : w0.heap.size < wr.heap.size := (World.ownsRow.lt h w0.heap.size rfl).2
theorem plR_step {l : List UInt8} {b : List Bool} {k : Nat} {c : UInt8} {r : List UInt8} {x : Bool} {bs : List Bool} (hl : l.drop k = c :: r) (hb : b.drop k = x :: bs) :
    plR (l.drop k) (b.drop k) k = (if !x && isMark c.toNat then [(k, c)] else []) ++ plR (l.drop (k + 1)) (b.drop (k + 1)) (k + 1) := by
  rw [(drop_step hl).2, (drop_step hb).2, hl, hb, plR]
  split <;> simp
theorem plR_len : ∀ (l : List UInt8) (b : List Bool) (p : Nat), (plR l b p).length ≤ l.length
  | [], b, p => by simp [plR]
  | c :: r, [], p => by simp [plR]
  | c :: r, x :: bs, p => by
    have := plR_len r bs (p + 1)
    rw [plR]; split <;> simp <;> omega

set_option maxRecDepth 100000 in
set_option maxHeartbeats 2000000 in
theorem refPlaces_any (s : ByteArray) (w : World) (hs : s.size * 8 ≤ 140737488355328) :
    Calls Try.prog 13 #[.string s] w fun e w' => ∃ A c, e = .returned (.slice A (marksI s.data.toList).length c) ∧ Rd w' A ((marksI s.data.toList).map (Value.int .i64)) ∧ Bel w.heap.size w w' := by
  obtain ⟨i0, hi, hz0, hz1, hz2⟩ := info_parts info_int2
  have HLL := Lib.hid (show s.data.toList.length = s.size by simp)
  go_enter Try.func13, Try.ntmps13
  go_wp2_with (go_at_call 24; refine (inside_any _ _ (by omega)).mono ?_; rintro e w1 ⟨rfl, ho, hb⟩; have HO := Lib.hid ho; have HB := Lib.hid hb; have hz1' := OWN.lt ho; clear ho hb)
  go_loopw [4, 5] (fun v i wr => ∃ (k : Nat) (pre : List (Nat × UInt8)), k ≤ s.size ∧ i = .int .i64 k ∧ pre.length ≤ k ∧ mk 0 s.data.toList 0 = pre ++ plR (s.data.toList.drop k) ((ins 0 s.data.toList).drop k) k ∧ wr.ownsRow w1.heap.size 3 1 v pre.length (pre.map fun x => Value.int .i64 x.1) ∧ Below w1.heap.size w1 wr) (fun _ i _ => s.size - (intOf i).toNat)
  case atStart => exact ⟨0, [], by omega, rfl, by simp, by simpa using mk_eq_plR 0 s.data.toList 0, World.ownsRow_nil _ _ _ _, Below.refl _ _⟩
  case round =>
    obtain ⟨k, pre, hk, rfl, hpl, hx, hrow, hb1⟩ := hrel
    have HX := Lib.hid hx; have HR := Lib.hid hrow; have HB1 := Lib.hid hb1; clear hx hrow hb1
    by_cases hlt : k < s.size
    · have HD := Lib.hid (drop_cons s k hlt)
      obtain ⟨c1, _⟩ := HO.out.at_ k hlt (by rw [ins_len, HLL.out])
      have c1 := (HB1.out.cell (p := ⟨w.heap.size, k, none⟩) hz1').trans c1
      have hlt' : k < (ins 0 s.data.toList).length := by rw [ins_len, HLL.out]; exact hlt
      have HBD := Lib.hid (List.drop_eq_getElem_cons hlt')
      generalize (ins 0 s.data.toList)[k] = x at c1 HBD
      have HP := Lib.hid (plR_step HD.out HBD.out)
      have hbz := HB1.out.size
      cases x with
      | true =>
        go_wp2
        go_roundw
        case rel => exact ⟨k + 1, pre, by omega, by go_num, by omega, by rw [HX.out, HP.out]; simp, HR.out, HB1.out⟩
        case measure => simp [intOf] <;> omega
      | false =>
        by_cases hm : isMark (s[k].toNat : Int) = true
        · go_wp2_with (first
            | (go_at_call 12; refine (refIs_any _ _).mono ?_; rintro e w' ⟨rfl, rfl⟩)
            | (at_builtin; refine wpList_append_own _ rfl _ _ 26 rfl w1.heap.size 3 i0 (.int .i64 0) 1 8 Try.underlying26 hi hz0 hz1 hz2 rfl (by decide) _ _ _ rfl (HR.out.alloc _) ⟨wr.heap.size, 0, none⟩ 1 1 [.int .i64 k] rfl rfl (cell_one_new _ _ _) (by simp [Value.oneCell']) (by unfold maxLen; omega) (by omega) (by simp; omega) ?_; intro v' w2 hown2 hgrow2 _; have HR2 := Lib.hid hown2; have HB2 := Lib.hid ((HB1.out.alloc hbz _).grown hgrow2 (by simp; omega) (fun j hj => (World.ownsRow.lt HR.out j hj).1)); clear hown2 hgrow2))
          go_roundw
          case rel => exact ⟨k + 1, pre ++ [(k, s[k])], by omega, by go_num, by simp; omega, by rw [HX.out, HP.out]; simp [hm], by simpa using HR2.out, HB2.out⟩
          case measure => simp [intOf] <;> omega
        · have hm : isMark (s[k].toNat : Int) = false := by simpa using hm
          go_wp2_with (go_at_call 12; refine (refIs_any _ _).mono ?_; rintro e w' ⟨rfl, rfl⟩)
          go_roundw
          case rel => exact ⟨k + 1, pre, by omega, by go_num, by omega, by rw [HX.out, HP.out]; simp [hm], HR.out, HB1.out⟩
          case measure => simp [intOf] <;> omega
    · go_wp2
      go_ret
      obtain ⟨A, c, hv, hl, hrd, _⟩ := Rd.of_own HR.out
      have e1 : mk 0 s.data.toList 0 = pre := by
        rw [HX.out, drop_nil s k (by omega)]; simp [plR]
      refine ⟨A, c, ?_, ?_, (Bel.of HB.out).trans (Bel.of (HB1.out.mono (by omega)))⟩
      · rw [hl] at hv
        rw [marksI, e1, List.length_map]
        exact congrArg Ending.returned hv
      · rw [marksI, e1, List.map_map]; exact hrd

end Go.Proofs.Ytppeahlnpidheaa
