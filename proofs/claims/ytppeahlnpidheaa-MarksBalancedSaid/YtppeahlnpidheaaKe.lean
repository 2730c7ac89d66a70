/- ref12: escape. -/
import Derived.Test.YtppeahlnpidheaaKd
import Derived.Test.YtppeahlnpidheaaJc
namespace Go.Proofs.Ytppeahlnpidheaa
open Go.RowKit

def sgB : ByteArray := ⟨#[34, 92, 47, 98, 102, 110, 114, 116]⟩
def sgL : List UInt8 := [34, 92, 47, 98, 102, 110, 114, 116]
def hexU (c : UInt8) : Bool := hexB c.toNat
/-- How long an escape is, behind its 5c. -/
def escL : List UInt8 → Option Nat
  | [] => none
  | c :: r => if c ∈ sgL then some 1 else if c = 117 then (if (r.take 4).length = 4 ∧ (r.take 4).all hexU = true then some 5 else none) else none

theorem belcell {W w1 : World} (hb : Bel W.heap.size W w1) : (∀ b o, b < W.heap.size → w1.cell? ⟨b, o, none⟩ = W.cell? ⟨b, o, none⟩) ∧ (∀ b o, b < W.heap.size → w1.frozen? ⟨b, o, none⟩ = W.frozen? ⟨b, o, none⟩) :=
  ⟨fun b o h => hb.cell (p := ⟨b, o, none⟩) h, fun b o h => hb.frozen (p := ⟨b, o, none⟩) h⟩

/-- An answer R. -/
def RV (n : Int) (ok : Bool) (d : Int) : Value := .agg #[.int .i64 n, .bool ok, .int .i64 d]
def ROk (w : World) (n d : Int) (e : Ending) (w' : World) : Prop := e = .returned (RV n true d) ∧ Bel w.heap.size w w'
def RNo (w : World) (e : Ending) (w' : World) : Prop := (∃ n : Int, e = .returned (RV n false 0)) ∧ Bel w.heap.size w w'

def EPost (w : World) (a : Int) (o : Option Nat) (e : Ending) (w' : World) : Prop :=
  match o with | some n => ROk w (a + n) 0 e w' | none => RNo w e w'
theorem EPost.yes {w : World} {a : Int} {o : Option Nat} {e : Ending} {w' : World} (n : Nat) (h : o = some n) (he : e = .returned (RV (a + n) true 0)) (hb : Bel w.heap.size w w') : EPost w a o e w' := by subst h; exact ⟨he, hb⟩
theorem EPost.no {w : World} {a : Int} {o : Option Nat} {e : Ending} {w' : World} (m : Int) (h : o = none) (he : e = .returned (RV m false 0)) (hb : Bel w.heap.size w w') : EPost w a o e w' := by subst h; exact ⟨⟨m, he⟩, hb⟩

theorem esc_in {c : UInt8} {r : List UInt8} (h : c ∈ sgL) : escL (c :: r) = some 1 := by simp only [escL]; rw [if_pos h]
theorem esc_out {c : UInt8} {r : List UInt8} (h : ∀ j, j < 8 → ∀ h : j < 8, c ≠ sgL[j]) (h' : c ≠ 117) : escL (c :: r) = none := by
  have hn : c ∉ sgL := by
    intro hm
    obtain ⟨j, hj, e⟩ := List.getElem_of_mem hm
    exact h j hj hj e.symm
  simp only [escL]; rw [if_neg hn, if_neg h']
theorem esc_u {r : List UInt8} (h : ¬ ((r.take 4).length = 4 ∧ (r.take 4).all hexU = true)) : escL (117 :: r) = none := by
  simp only [escL]; rw [if_neg (by decide), if_pos trivial, if_neg h]
theorem esc_u' {r : List UInt8} (h : (r.take 4).length = 4 ∧ (r.take 4).all hexU = true) : escL (117 :: r) = some 5 := by
  simp only [escL]; rw [if_neg (by decide), if_pos trivial, if_pos h]
theorem sg_eq (k : Nat) (h : k < 8) : (({ data := #[34, 92, 47, 98, 102, 110, 114, 116] } : ByteArray)[k]'(by exact h)) = sgL[k] := rfl

theorem take_snoc' (s : ByteArray) (a k : Nat) (hk : 1 ≤ k) (h : a + k < s.size) : (s.data.toList.drop (a + 1)).take k = (s.data.toList.drop (a + 1)).take (k - 1) ++ [s[a + k]] := by
  obtain ⟨j, rfl⟩ : ∃ j, k = j + 1 := ⟨k - 1, by omega⟩
  rw [Nat.add_sub_cancel, List.take_succ_eq_append_getElem (by simp; omega)]
  congr 2
  rw [List.getElem_drop]
  show _ = s.data.toList[a + (j + 1)]'(by simpa using h)
  congr 1
  omega

set_option maxRecDepth 100000 in
set_option maxHeartbeats 1000000 in
theorem escape_any (s : ByteArray) (a : Nat) (w : World) (hs : s.size ≤ 9223372036854775000) (ha : a ≤ s.size) :
    Calls Try.prog 20 #[.string s, .int .i64 a] w (EPost w a (escL (s.data.toList.drop a))) := by
  by_cases hlt : a < s.size
  · have HD := Lib.hid (drop_cons s a hlt)
    have hd1 : decide (a < s.size) = true := by simp; omega
    have hd2 : decide (s.size ≤ a) = false := by simp; omega
    go_enter Try.func20, Try.ntmps20
    go_wp2
    go_loopw [6] (fun i wr => ∃ k n : Nat, k ≤ 8 ∧ i = .int .i64 k ∧ (∀ j, j < k → ∀ h : j < 8, s[a] ≠ sgL[j]) ∧ wr = (w.alloc (.cells #[.int .i64 0, .bool false, .int .i64 0] 24)).drewN n) (fun i _ => 8 - (intOf i).toNat)
    case atStart => exact ⟨0, 0, by omega, rfl, fun j hj => absurd hj (by omega), rfl⟩
    case round =>
      obtain ⟨k, n, hk, rfl, hne, rfl⟩ := hrel
      have HNE := Lib.hid hne; clear hne
      by_cases hk8 : k < 8
      · have HSG := Lib.hid (sg_eq k hk8)
        by_cases heq : ((s[a].toNat : Int) == (({ data := #[34, 92, 47, 98, 102, 110, 114, 116] } : ByteArray)[k]'(by exact hk8)).toNat) = true
        · go_wp2
          go_quiet (fail)
          go_wp2
          refine bodyPost_ret (v := RV (a + 1) true 0) (by simp [results, Try.results20, go_sem, RV]) rfl ?_
          refine EPost.yes 1 (by rw [HD.out]; exact esc_in (by
            have e : s[a] = sgL[k] := by rw [← HSG.out]; exact UInt8.toNat_inj.1 (by have := beq_iff_eq.1 heq; omega)
            rw [e]; exact List.getElem_mem _)) rfl ?_
          exact Bel.of (by (repeat' (first | (with_reducible exact Below.refl _ _) | (with_reducible refine Below.trans ?_ (below_drewN _ _ _)) | (with_reducible refine Below.alloc ?_ ?_ _) | (with_reducible refine Below.setCell ?_ ?_ _) | (with_reducible refine Below.drew ?_) | go_size)))
        · have heq : ((s[a].toNat : Int) == (({ data := #[34, 92, 47, 98, 102, 110, 114, 116] } : ByteArray)[k]'(by exact hk8)).toNat) = false := by simpa using heq
          go_wp2
          go_quiet (fail)
          go_wp2
          go_roundw
          case rel => exact ⟨k + 1, _, by omega, by go_num, (by
            intro j hj hj8
            by_cases hjk : j = k
            · subst hjk; rw [← HSG.out]; intro e; rw [e] at heq; simp at heq
            · exact HNE.out j (by omega) hj8), rfl⟩
          case measure => simp [intOf] <;> omega
      · by_cases hu : ((s[a].toNat : Int) != 117) = true
        · go_wp2
          refine bodyPost_ret (v := RV a false 0) (by simp [results, Try.results20, go_sem, RV]) rfl ?_
          refine EPost.no a (by rw [HD.out]; exact esc_out (fun j hj => HNE.out j (by omega)) (by intro e; rw [e] at hu; simp at hu)) rfl ?_
          exact Bel.of (by (repeat' (first | (with_reducible exact Below.refl _ _) | (with_reducible refine Below.trans ?_ (below_drewN _ _ _)) | (with_reducible refine Below.alloc ?_ ?_ _) | (with_reducible refine Below.setCell ?_ ?_ _) | (with_reducible refine Below.drew ?_) | go_size)))
        · have hu : ((s[a].toNat : Int) != 117) = false := by simpa using hu
          have HU := Lib.hid (show s[a] = 117 from byte_of s[a] 117 (by have := bne_eq_false_iff_eq.1 hu; omega))
          go_wp2
          go_loopw [7] (fun i wr => ∃ k : Nat, 1 ≤ k ∧ k ≤ 5 ∧ i = .int .i64 k ∧ ((s.data.toList.drop (a + 1)).take (k - 1)).length = k - 1 ∧ ((s.data.toList.drop (a + 1)).take (k - 1)).all hexU = true ∧ wr = (w.alloc (.cells #[.int .i64 0, .bool false, .int .i64 0] 24)).drewN n) (fun i _ => 5 - (intOf i).toNat)
          case atStart => exact ⟨1, by omega, by omega, rfl, rfl, rfl, rfl⟩
          case round =>
            obtain ⟨k, hk1, hk5, rfl, hl, hall, rfl⟩ := hrel
            have HL := Lib.hid hl; have HA := Lib.hid hall; clear hl hall
            by_cases hk4 : k ≤ 4
            · by_cases hak : a + k < s.size
              · have hstep := Lib.hid (take_snoc' s a k hk1 hak)
                by_cases hh : hexB (s[a + k].toNat) = true
                · go_wp2_with (go_at_call 27; refine (hex_any _ _).mono ?_; rintro e w' ⟨rfl, rfl⟩)
                  go_roundw
                  case rel => exact ⟨k + 1, by omega, by omega, by go_num, by
                    rw [Nat.add_sub_cancel, hstep.out, List.length_append, HL.out]; simp; omega, by
                    rw [Nat.add_sub_cancel, hstep.out, List.all_append, HA.out]; simpa [hexU] using hh, (by first | rfl | trivial)⟩
                  case measure => simp [intOf] <;> omega
                · have hh : hexB (s[a + k].toNat) = false := by simpa using hh
                  go_wp2_with (go_at_call 27; refine (hex_any _ _).mono ?_; rintro e w' ⟨rfl, rfl⟩)
                  go_wp2
                  refine bodyPost_ret (v := RV (a + k) false 0) (by simp [results, Try.results20, go_sem, RV]) rfl ?_
                  refine EPost.no (a + k) (by
                    rw [HD.out, HU.out]
                    refine esc_u (fun hx => ?_)
                    have h1 : (List.take k (s.data.toList.drop (a + 1))).all hexU = true := by
                      rw [← List.take_append_drop k (List.take 4 (s.data.toList.drop (a + 1))), List.all_append] at hx
                      have := hx.2
                      rw [List.take_take, Nat.min_eq_left hk4, Bool.and_eq_true] at this
                      exact this.1
                    rw [hstep.out, List.all_append] at h1
                    simp [hexU, hh] at h1) rfl ?_
                  exact Bel.of (by (repeat' (first | (with_reducible exact Below.refl _ _) | (with_reducible refine Below.trans ?_ (below_drewN _ _ _)) | (with_reducible refine Below.alloc ?_ ?_ _) | (with_reducible refine Below.setCell ?_ ?_ _) | (with_reducible refine Below.drew ?_) | go_size)))
              · go_wp2
                refine bodyPost_ret (v := RV (a + k) false 0) (by simp [results, Try.results20, go_sem, RV]) rfl ?_
                refine EPost.no (a + k) (by
                  rw [HD.out, HU.out]
                  refine esc_u (fun hx => ?_)
                  have h1 := hx.1
                  simp at h1
                  omega) rfl ?_
                exact Bel.of (by (repeat' (first | (with_reducible exact Below.refl _ _) | (with_reducible refine Below.trans ?_ (below_drewN _ _ _)) | (with_reducible refine Below.alloc ?_ ?_ _) | (with_reducible refine Below.setCell ?_ ?_ _) | (with_reducible refine Below.drew ?_) | go_size)))
            · obtain rfl : k = 5 := by omega
              go_wp2
              refine bodyPost_ret (v := RV (a + 5) true 0) (by simp [results, Try.results20, go_sem, RV]) rfl ?_
              refine EPost.yes 5 (by rw [HD.out, HU.out]; exact esc_u' ⟨HL.out, HA.out⟩) rfl ?_
              exact Bel.of (by (repeat' (first | (with_reducible exact Below.refl _ _) | (with_reducible refine Below.trans ?_ (below_drewN _ _ _)) | (with_reducible refine Below.alloc ?_ ?_ _) | (with_reducible refine Below.setCell ?_ ?_ _) | (with_reducible refine Below.drew ?_) | go_size)))
  · go_enter Try.func20, Try.ntmps20
    go_wp2
    refine wp_loop_rounds 1 ?_
    rw [rounds_succ]
    go_wp2
    refine bodyPost_ret (v := RV a false 0) (by simp [results, Try.results20, go_sem, RV]) rfl ?_
    refine EPost.no a (by rw [drop_nil s a (by omega)]; rfl) rfl ?_
    exact Bel.of (by (repeat' (first | (with_reducible exact Below.refl _ _) | (with_reducible refine Below.trans ?_ (below_drewN _ _ _)) | (with_reducible refine Below.alloc ?_ ?_ _) | (with_reducible refine Below.setCell ?_ ?_ _) | (with_reducible refine Below.drew ?_) | go_size)))

end Go.Proofs.Ytppeahlnpidheaa
