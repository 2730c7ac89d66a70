/- The iterator over a record's marks; marks.Places and marks.Parens. -/
import Derived.RangeFuncNested
import Derived.RangeFuncBound
import Derived.RangeFuncCalls
import Derived.RangeFuncLeaves
import Derived.RangeFuncBox
import Derived.Shelf.Abstract
import Derived.Shelf.RegionOpen
import Derived.OwnWalkIn
import Derived.TacticsInMore
import Derived.LoopNIn
import Derived.LoopIn
import Derived.Maps.AppendAt
import Derived.Outline
import Derived.WalkMore
import Derived.Test.YtppeahlnpidheaaJb
namespace Go.Proofs.Ytppeahlnpidheaa
open Go.RowKit Go.Shelf

attribute [local go_sem] Oper.semAt_some

/-- Block Bn lies as it lay. -/
def KpB (Bn : Nat) (A B : World) : Prop := B.heap[Bn]? = A.heap[Bn]?
theorem KpB.t {Bn : Nat} {A B C : World} (h : KpB Bn A B) (k : KpB Bn B C) : KpB Bn A C := k.trans h
theorem KpB.b {Bn : Nat} {w : World} (hn : Bn < w.heap.size) (W : World) (l : Nat) (o o' : Obj) (hl : w.heap.size ≤ l) (h : W.heap[l]? = some o) (hc : o.isCells = false) (hw : o.isWalk = false) : KpB Bn W (W.putObj l o') :=
  (belowK_b (n₀ := Bn + 1) (w := w) (by omega) W l o o' hl h hc hw).block Bn (by omega)
theorem KpB.cell {Bn : Nat} {A B : World} (h : KpB Bn A B) : B.cell? ⟨Bn, 0, none⟩ = A.cell? ⟨Bn, 0, none⟩ := World.cell?_of_block h
theorem KpB.box {Bn : Nat} {A B : World} {t : TypeId} {v : Value} (h : Boxed A Bn t v) (k : Boxed B Bn t v) : KpB Bn A B := (show B.heap[Bn]? = _ from k).trans (show A.heap[Bn]? = _ from h).symm

def stN (b : Bool) : Nat := if b then 1 else 0

theorem byte_of (c : UInt8) (n : Nat) (h : c.toNat = n) (hn : n < 256 := by decide) : c = UInt8.ofNat n := by
  rw [← h]; simp

set_option maxRecDepth 100000 in
set_option maxHeartbeats 1000000 in
theorem each1_in (n : Nat) (hn : 1 ≤ n) (l Bn : Nat) (s : ByteArray) (hs : s.size ≤ maxLen - 2) (J Jx : List (Nat × UInt8) → World → Prop)
    (hY : ∀ pre (x : Nat × UInt8) W, J pre W → pre.length < (mk 0 s.data.toList 0).length → YieldAt Fence.wide (n - 1) Try.prog l #[.int .i64 x.1, .int .u8 x.2.toNat] W fun e W' =>
      (e = .returned (.bool true) ∧ J (pre ++ [x]) W' ∧ KpB Bn W W') ∨ (e = .returned (.bool false) ∧ Jx (pre ++ [x]) W'))
    (W : World) (hBn : W.cell? ⟨Bn, 0, none⟩ = some (.string s)) (h0 : J [] W) :
    CallsIn Fence.wide n Try.prog 30 #[.func (.yield l) #[] #[], .pointer (some ⟨Bn, 0, none⟩)] W fun e W' => (∃ v, e = .returned v) ∧
      ((∃ ys, ys = mk 0 s.data.toList 0 ∧ J ys W') ∨ (∃ pre, True ∧ Jx pre W')) := by
  unfold maxLen at hs
  refine callsIn_of_wp Try.func30 rfl trivial ?_ rfl
  simp only [Try.ntmps30, List.size_toArray, List.length_cons, List.length_nil, Nat.reduceAdd, Nat.reduceSub, Array.replicate_succ, Array.replicate_zero, List.push_toArray, List.append_toArray, List.nil_append, List.cons_append]
  gi_wp2
  refine wpIn_wide.2 (wp_scope_straight ((wpIn_wide (n := n)).1 ?_))
  gi_wp2
  refine wpIn_label ?_
  gi_wp2
  gi_loopw [3, 4] (fun inn a wr => ∃ (pre : List (Nat × UInt8)) (b : Bool) (k : Nat), inn = .bool b ∧ a = .int .i64 k ∧ k ≤ s.size + 1 ∧ mk 0 s.data.toList 0 = pre ++ mk (stN b) (s.data.toList.drop k) k ∧ wr.cell? ⟨Bn, 0, none⟩ = some (.string s) ∧ J pre wr)
    (fun _ a _ => s.size + 1 - (intOf a).toNat)
  case atStart => exact ⟨[], false, 0, rfl, rfl, by omega, rfl, hBn, h0⟩
  case round =>
    obtain ⟨pre, b, k, rfl, rfl, hk, hx, hc, hJ⟩ := hrel
    have HX := Lib.hid hx; clear hx
    by_cases hlt : k < s.size
    · have hd := drop_cons s k hlt
      have HD := Lib.hid hd; clear hd
      have e34 : ((s[k].toNat : Int) == 34) = true → s[k] = 34 := fun h => byte_of s[k] 34 (by have := beq_iff_eq.1 h; omega)
      have e92 : ((s[k].toNat : Int) == 92) = true → s[k] = 92 := fun h => byte_of s[k] 92 (by have := beq_iff_eq.1 h; omega)
      have n34 : ((s[k].toNat : Int) == 34) = false → s[k] ≠ 34 := fun h e => by rw [e] at h; revert h; decide
      have n92 : ((s[k].toNat : Int) == 92) = false → s[k] ≠ 92 := fun h e => by rw [e] at h; revert h; decide
      have E34 := Lib.hid e34; have E92 := Lib.hid e92; have N34 := Lib.hid n34; have N92 := Lib.hid n92
      clear e34 e92 n34 n92
      cases b with
      | true =>
        by_cases h92 : ((s[k].toNat : Int) == 92) = true
        · gi_wp2
          go_roundw
          case rel => exact ⟨pre, true, k + 2, rfl, by go_num, by omega, by
            rw [HX.out, HD.out, E92.out h92]; show pre ++ mk 1 _ _ = pre ++ mk 1 _ _
            rw [mk_in_back, List.drop_drop, Nat.add_assoc], hc, hJ⟩
          case measure => simp [intOf]; omega
        · have h92 : ((s[k].toNat : Int) == 92) = false := by simpa using h92
          by_cases h34 : ((s[k].toNat : Int) == 34) = true
          · gi_wp2
            go_roundw
            case rel => exact ⟨pre, false, k + 1, rfl, by go_num, by omega, by
              rw [HX.out, HD.out, E34.out h34]; show pre ++ mk 1 _ _ = pre ++ mk 0 _ _
              rw [mk_in_quote], hc, hJ⟩
            case measure => simp [intOf]; omega
          · have h34 : ((s[k].toNat : Int) == 34) = false := by simpa using h34
            gi_wp2
            refine ⟨trivial, ?_⟩
            gi_wp2
            go_roundw
            case rel => exact ⟨pre, true, k + 1, rfl, by go_num, by omega, by
              rw [HX.out, HD.out]; show pre ++ mk 1 _ _ = pre ++ mk 1 _ _
              rw [mk_in_other _ _ _ (N92.out h92) (N34.out h34)], hc, hJ⟩
            case measure => simp [intOf]; omega
      | false =>
        by_cases h34 : ((s[k].toNat : Int) == 34) = true
        · gi_wp2
          go_roundw
          case rel => exact ⟨pre, true, k + 1, rfl, by go_num, by omega, by
            rw [HX.out, HD.out, E34.out h34]; show pre ++ mk 0 _ _ = pre ++ mk 1 _ _
            rw [mk_out_quote], hc, hJ⟩
          case measure => simp [intOf]; omega
        · have h34 : ((s[k].toNat : Int) == 34) = false := by simpa using h34
          by_cases hm : isMark s[k].toNat = true
          · have hlen : pre.length < (mk 0 s.data.toList 0).length := by
              rw [HX.out, HD.out]; show _ < (pre ++ mk 0 _ _).length
              rw [mk_out_mark _ _ _ hm]; simp
            obtain ⟨fn, tmps, assign, body, hy, hR⟩ := hY pre (k, s[k]) wr hJ hlen
            dsimp only at hy hR
            gi_wp2_with (refine ⟨trivial, ?_⟩; gi_at_call 11; refine (callsIn_wide.2 (marksIs_any _ _)).mono ?_; rintro e w' ⟨rfl, rfl⟩)
            refine hR.mono ?_
            rintro e W3 (⟨rfl, hJ3, hk3⟩ | ⟨rfl, hJx3⟩)
            · have hc3 : W3.cell? ⟨Bn, 0, none⟩ = some (.string s) := hk3.cell.trans hc
              gi_wp2
              go_roundw
              case rel => exact ⟨pre ++ [(k, s[k])], false, k + 1, rfl, by go_num, by omega, by
                rw [HX.out, HD.out]; show pre ++ mk 0 _ _ = pre ++ [_] ++ mk 0 _ _
                rw [mk_out_mark _ _ _ hm]; simp, hc3, hJ3⟩
              case measure => simp [intOf]; omega
            · gi_wp2
              rw [Exit.noGoto_ret]
              refine bodyPost_ret (results_none rfl _ _ _) rfl ?_
              exact ⟨⟨_, rfl⟩, .inr ⟨pre ++ [(k, s[k])], trivial, hJx3⟩⟩
          · have hm : isMark s[k].toNat = false := by simpa using hm
            gi_wp2_with (refine ⟨trivial, ?_⟩; gi_at_call 11; refine (callsIn_wide.2 (marksIs_any _ _)).mono ?_; rintro e w' ⟨rfl, rfl⟩)
            go_roundw
            case rel => exact ⟨pre, false, k + 1, rfl, by go_num, by omega, by
              rw [HX.out, HD.out]; show pre ++ mk 0 _ _ = pre ++ mk 0 _ _
              rw [mk_out_other _ _ _ hm (N34.out h34)], hc, hJ⟩
            case measure => simp [intOf]; omega
    · gi_wp2
      rw [Exit.noGoto_normal]
      go_end0
      exact ⟨⟨_, rfl⟩, .inl ⟨pre, by rw [HX.out, drop_nil s k (by omega), mk_nil]; simp, hJ⟩⟩

end Go.Proofs.Ytppeahlnpidheaa
