/- ref09: part: it returns. -/
import Derived.Deep.Onto
import Derived.Deep.AppendLies
import Derived.Deep.RegionHeld3
import Derived.Deep.RegionLaw
import Derived.Lib.ConvBytes
import Derived.Maps.AppendAt
import Derived.Maps.RangeWalk
import Derived.Test.YtppeahlnpidheaaKb
namespace Go.Proofs.Ytppeahlnpidheaa
open Go.RowKit

theorem info_u8 : (Try.prog.info? 5).map (fun i => (i.zero, i.size, i.bytes)) = some (some (.int .u8 0), 1, 1) := by kernel_rfl

def lenOf : Value → Nat | .slice _ n _ => n | _ => 0

theorem came_bytes (w : World) (s : ByteArray) : Came (Lib.bytesWorld w 5 s) 1 (some ⟨w.heap.size, 0, none⟩) w.heap.size 0 s.size (grownCap w s.size 0 5) (s.data.toList.map fun c => Value.int .u8 c.toNat) := by
  have hge := grownCap_ge w s.size 0 5
  refine ⟨hge, fun _ => rfl, fun _ => by rw [Lib.bytesWorld_size]; omega, by simp, fun j u hu => ?_, fun j hj => ?_⟩
  · rw [Nat.zero_add]
    have hj : j < s.size := by have := (List.getElem?_eq_some_iff.1 hu).1; simpa using this
    rw [Lib.bytesWorld_cell w _ s j hj]
    rw [← hu]; simp [List.getD, hj]
  · have hnew := Lib.bytesWorld_at_new w 5 s
    have hsz : (Lib.bytesCells w 5 s).size = grownCap w s.size 0 5 := by
      simp [Lib.bytesCells]; omega
    constructor
    · rw [World.cell?]
      simp only [hnew]
      rw [Array.getElem?_eq_getElem (by omega)]; rfl
    · rw [World.frozen?]
      simp only [hnew]
      simp; omega

theorem onto_bel {W0 W : World} {e : TypeId} {size : Nat} {ao : Option Addr} {b off len cap : Nat} {olds : List Value} {w : World} {v : Value} {m : Nat} {ks : List Value}
    (h0 : Bel W0.heap.size W0 W) (h : Onto W e size ao b off len cap olds w v m ks) (hb : W0.heap.size ≤ b) : Bel W0.heap.size W0 w := by
  refine h0.trans ⟨h.kept.1, h.kept.2.1, h.kept.size, fun k hk => h.kept.block (by have := h0.size; omega) ?_⟩
  rintro p ⟨j, _, _, rfl⟩
  show b ≠ k
  omega

theorem onto_shape {W : World} {e : TypeId} {size : Nat} {ao : Option Addr} {b off len cap : Nat} {olds : List Value} {w : World} {v : Value} {m : Nat} {ks : List Value}
    (h : Onto W e size ao b off len cap olds w v m ks) : ∃ A c, v = .slice A (len + m) c := by
  rcases h.val with ⟨_, rfl⟩ | ⟨_, hown⟩
  · exact ⟨_, _, rfl⟩
  · rcases hown.2 with ⟨rfl, h0⟩ | ⟨g, cp, _, rfl, _⟩
    · exact ⟨none, 0, by rw [h0]⟩
    · exact ⟨_, _, rfl⟩

theorem cell_one_new2 (w : World) (o : Obj) (x : Value) (t : TypeId) : ∀ j u, [x][j]? = some u → ((w.alloc o).alloc (.cells #[x] t)).drew.cell? ((⟨w.heap.size + 1, 0, none⟩ : Addr).add j) = some u := by
  intro j u hj
  have h := cell_one_new (w.alloc o) x t j u hj
  rw [World.size_alloc] at h
  exact h

theorem step_append_onto {P : Program} (w : World) {ops : Array Oper} {o : Oper} {a : Act} {K : Act → World → Prop} {Q : Exit → Act → World → Prop} {E : Prop} (hgd : o.guard = none) (s x : Operand) (t : TypeId)
    (ho : o.op = .call { callee := .builtin .append, args := #[s, x], argTypes := #[t, t] })
    {W : World} {e : TypeId} {size : Nat} {ao : Option Addr} {b off len cap : Nat} {olds : List Value} (hc : Came W size ao b off len cap olds)
    (i : TypeInfo) (z : Value) (bytes : Nat) (ht : P.underlying t = some (.slice e)) (hi : P.info? e = some i) (hz : i.zero = some z) (hsize : i.size = size) (hby : i.bytes = bytes) (hzs : z.cells.size = size) (hsz : 0 < size)
    {v : Value} {m : Nat} {ks : List Value} (hs : a.eval s = v) (h : Onto W e size ao b off len cap olds w v m ks)
    (ad : Addr) (c : Nat) (news : List Value) (hx : a.eval x = .slice (some ad) 1 c) (hl : news.length = 1 * size) (hnews : ∀ j u, news[j]? = some u → w.cell? (ad.add j) = some u) (h1 : ∀ u ∈ news, u.oneCell' = true)
    (h63 : len + m + 1 ≤ maxLen) (hbytes : (len + m + 1) * bytes ≤ 140737488355328)
    (hK : ∀ v' w', Onto W e size ao b off len cap olds w' v' (m + 1) (ks ++ news) → K (a.put o.dst v') w') :
    if Region.wanted o (yielded ops a.tmps) = true then Oper.wp P o a w K Q else E := by
  have hw : Region.wanted o (yielded ops a.tmps) = true := by simp [Region.wanted, hgd]
  rw [if_pos hw]
  obtain ⟨v', w', hrun, r⟩ := run_append_onto (P := P) hc t o.type i z bytes ht hi hz hsize hby hzs hsz h ad c news hl hnews h1 h63 hbytes
  unfold Oper.wp
  simp [execOp, ho, resolve, invoke, builtin, hs, hx, hrun, Result.andThen]
  exact hK v' w' r

set_option maxRecDepth 100000 in
set_option maxHeartbeats 2000000 in
theorem part_any (s : ByteArray) (w : World) (hs : s.size ≤ 3) :
    Calls Try.prog 29 #[.string s] w fun e w' => ∃ b : Bool, e = .returned (.bool b) ∧ Bel w.heap.size w w' := by
  have hcv := fun w => Lib.run_convert_string_bytes (P := Try.prog) w 9 48 5 s Try.underlying9 Try.underlying48 Try.underlying5
  go_enter Try.func29, Try.ntmps29
  go_wp2
  have hB0 : Below w.heap.size w ((w.alloc (.cells #[.int .u8 128, .int .u8 160, .int .u8 144] 5)).alloc (.cells #[.int .u8 191, .int .u8 159, .int .u8 143] 5)) := by go_grown
  have hz0 : ((w.alloc (.cells #[.int .u8 128, .int .u8 160, .int .u8 144] 5)).alloc (.cells #[.int .u8 191, .int .u8 159, .int .u8 143] 5)).heap.size = w.heap.size + 2 := by simp
  have hcl : ∀ i : Nat, i < 3 → ∃ x : Int, 0 ≤ x ∧ x < 256 ∧ ((w.alloc (.cells #[.int .u8 128, .int .u8 160, .int .u8 144] 5)).alloc (.cells #[.int .u8 191, .int .u8 159, .int .u8 143] 5)).cell? ⟨w.heap.size, i, none⟩ = some (.int .u8 x) := by
    intro i hi
    match i, hi with
    | 0, _ => exact ⟨128, by decide, by decide, by simp [go_sem]⟩
    | 1, _ => exact ⟨160, by decide, by decide, by simp [go_sem]⟩
    | 2, _ => exact ⟨144, by decide, by decide, by simp [go_sem]⟩
  have hch : ∀ i : Nat, i < 3 → ∃ x : Int, 0 ≤ x ∧ x < 256 ∧ ((w.alloc (.cells #[.int .u8 128, .int .u8 160, .int .u8 144] 5)).alloc (.cells #[.int .u8 191, .int .u8 159, .int .u8 143] 5)).cell? ⟨w.heap.size + 1, i, none⟩ = some (.int .u8 x) := by
    intro i hi
    match i, hi with
    | 0, _ => exact ⟨191, by decide, by decide, by simp [go_sem]⟩
    | 1, _ => exact ⟨159, by decide, by decide, by simp [go_sem]⟩
    | 2, _ => exact ⟨143, by decide, by decide, by simp [go_sem]⟩
  generalize ((w.alloc (.cells #[.int .u8 128, .int .u8 160, .int .u8 144] 5)).alloc (.cells #[.int .u8 191, .int .u8 159, .int .u8 143] 5)) = W0 at *
  have HL := Lib.hid hcl; have HH := Lib.hid hch; have HZ := Lib.hid hz0; have HB := Lib.hid hB0
  clear hcl hch hz0 hB0
  go_loopw [5] (fun i wr => ∃ k : Nat, k ≤ 3 ∧ i = .int .i64 k ∧ Bel W0.heap.size W0 wr) (fun i _ => 3 - (intOf i).toNat)
  case atStart => exact ⟨0, by omega, rfl, Bel.refl _ _⟩
  case round =>
    obtain ⟨i, hi, rfl, hb1⟩ := hrel
    have Hb1 := Lib.hid hb1; clear hb1
    by_cases hlt : i < 3
    · have hdi : decide ((i : Int) < 3) = true := by simp; omega
      go_wp2
      obtain ⟨xl, xl0, xl1, hxl⟩ := HL.out i hlt
      obtain ⟨xh, xh0, xh1, hxh⟩ := HH.out i hlt
      have HXL := Lib.hid hxl; have HXH := Lib.hid hxh; clear hxl hxh
      go_loopw [6] (fun j wr2 => ∃ q : Nat, q ≤ 3 ∧ j = .int .i64 q ∧ Bel W0.heap.size W0 wr2) (fun j _ => 3 - (intOf j).toNat)
      case atStart => exact ⟨0, by omega, rfl, Hb1.out⟩
      case round =>
        obtain ⟨q, hq, rfl, hb2⟩ := hrel
        have Hb2 := Lib.hid hb2; clear hb2
        by_cases hlq : q < 3
        · have hdq : decide ((q : Int) < 3) = true := by simp; omega
          go_wp2
          go_loopw [7] (fun mv wr3 => ∃ m : Nat, s.size + 1 ≤ m ∧ m ≤ 5 ∧ mv = .int .i64 m ∧ Bel W0.heap.size W0 wr3) (fun mv _ => 5 - (intOf mv).toNat)
          case atStart => exact ⟨s.size + 1, by omega, by omega, by go_num, Hb2.out⟩
          case round =>
            obtain ⟨m, hm1, hm2, rfl, hb3⟩ := hrel
            have Hb3 := Lib.hid hb3; clear hb3
            by_cases hlm : m ≤ 4
            · have hdm : decide ((m : Int) ≤ 4) = true := by simp; omega
              go_wp2
              have hcame := came_bytes wr s
              have hbw : Bel W0.heap.size W0 (Lib.bytesWorld wr 5 s) := Hb3.out.trans ⟨rfl, rfl, by rw [Lib.bytesWorld_size]; omega, fun k hk => Lib.bytesWorld_at_old wr _ s k (by have := Hb3.out.size; omega)⟩
              have hbb : W0.heap.size ≤ wr.heap.size := Hb3.out.size
              have hcm : grownCap wr s.size 0 5 ≤ maxLen := grownCap_le_maxLen _ _ _ _ (by unfold maxLen; omega)
              generalize wr.heap.size = bb at *
              have hgc := hcame.le
              generalize grownCap wr s.size 0 5 = cap at *
              have HCM := Lib.hid hcm; clear hcm
              generalize Lib.bytesWorld wr 5 s = W1 at *
              have HC := Lib.hid hcame; have HBW := Lib.hid hbw; clear hcame hbw
              go_loopw [8] (fun t wr4 => ∃ (kz : List Int) (A : Option Addr) (c : Nat), t = .slice A (s.size + kz.length) c ∧ s.size + kz.length ≤ m ∧
                  Onto W1 5 1 (some ⟨bb, 0, none⟩) bb 0 s.size cap (s.data.toList.map fun c => Value.int .u8 c.toNat) wr4 (.slice A (s.size + kz.length) c) kz.length (kz.map (Value.int .u8)))
                (fun t _ => m - lenOf t)
              case atStart => exact ⟨[], some ⟨bb, 0, none⟩, cap, rfl, by simp; omega, Onto.start HC.out⟩
              case round =>
                obtain ⟨kz, A, c, rfl, hle, ho⟩ := hrel
                have HO := Lib.hid ho; clear ho
                by_cases hlt4 : s.size + kz.length < m
                · have hd4 : decide ((s.size : Int) + kz.length < m) = true := by simp; omega
                  obtain ⟨i0, hi0, hz0, hz1, hz2⟩ := info_parts info_u8
                  by_cases hone : s.size + kz.length = 1
                  · have ho1 : (((s.size + kz.length : Nat) : Int) == 1) = true := by simp; omega
                    have ho1' : ((s.size : Int) + kz.length == 1) = true := by simp; omega
                    have HONE := Lib.hid hone; clear hone
                    have HB4 := onto_bel HBW.out HO.out hbb
                    have hx1 : wr.cell? ⟨w.heap.size, i, none⟩ = some (.int .u8 xl) := (HB4.cell (p := ⟨w.heap.size, i, none⟩) (by rw [HZ.out]; show w.heap.size < _; omega)).trans HXL.out
                    have hx2 : wr.cell? ⟨w.heap.size + 1, i, none⟩ = some (.int .u8 xh) := (HB4.cell (p := ⟨w.heap.size + 1, i, none⟩) (by rw [HZ.out]; show w.heap.size + 1 < _; omega)).trans HXH.out
                    have hlw : w.heap.size + 1 < wr.heap.size := by have := HB4.size; have := HZ.out; omega
                    have hi0' : (0 : Int) ≤ (i : Int) := Int.natCast_nonneg _
                    have hi1' : (i : Int) < 3 := by omega
                    have HB4 := Lib.hid HB4
                    go_wp2_with fail
                    have hq01 : (q : Int).tmod 2 = 0 ∨ (q : Int).tmod 2 = 1 := by rw [Int.tmod_eq_emod_of_nonneg (by omega)]; omega
                    rcases hq01 with hq0 | hq0
                    · go_region_law ((refine step_append_onto _ (by rfl) _ _ _ (by rfl) HC.out i0 (.int .u8 0) 1 Try.underlying48 hi0 hz0 hz1 hz2 rfl (by decide) (by rfl) (((HO.out.alloc HC.out _).alloc HC.out _).drew HC.out) ⟨wr.heap.size + 1, 0, none⟩ 1 [.int .u8 xl] (by rfl) (by rfl) (cell_one_new2 _ _ _ _) (by simp [Value.oneCell']) (by unfold maxLen; omega) (by omega) ?_; intro v' w1 honto; obtain ⟨A', c', rfl⟩ := onto_shape honto))
                      all_goals
                        simp only [List.getElem_toArray, List.getElem_cons_succ, List.getElem_cons_zero, Act.put, List.setIfInBounds_toArray, List.set_cons_succ, List.set_cons_zero]
                        go_wp2
                        go_roundw
                        case rel => exact ⟨kz ++ [xl], A', c', by simp, by simp; omega, by simpa [Nat.add_assoc] using honto⟩
                        case measure => simp [lenOf]; omega
                    · go_region_law ((refine step_append_onto _ (by rfl) _ _ _ (by rfl) HC.out i0 (.int .u8 0) 1 Try.underlying48 hi0 hz0 hz1 hz2 rfl (by decide) (by rfl) (((HO.out.alloc HC.out _).alloc HC.out _).drew HC.out) ⟨wr.heap.size + 1, 0, none⟩ 1 [.int .u8 xh] (by rfl) (by rfl) (cell_one_new2 _ _ _ _) (by simp [Value.oneCell']) (by unfold maxLen; omega) (by omega) ?_; intro v' w1 honto; obtain ⟨A', c', rfl⟩ := onto_shape honto))
                      all_goals
                        simp only [List.getElem_toArray, List.getElem_cons_succ, List.getElem_cons_zero, Act.put, List.setIfInBounds_toArray, List.set_cons_succ, List.set_cons_zero]
                        go_wp2
                        go_roundw
                        case rel => exact ⟨kz ++ [xh], A', c', by simp, by simp; omega, by simpa [Nat.add_assoc] using honto⟩
                        case measure => simp [lenOf]; omega
                  · have ho1 : (((s.size + kz.length : Nat) : Int) == 1) = false := by simp; omega
                    have ho1' : ((s.size : Int) + kz.length == 1) = false := by simp; omega
                    go_wp2_with (at_builtin; refine wpList_append_onto _ rfl _ _ 48 rfl HC.out i0 (.int .u8 0) 1 Try.underlying48 hi0 hz0 hz1 hz2 rfl (by decide) rfl (HO.out.alloc HC.out _) ⟨wr.heap.size, 0, none⟩ 1 [.int .u8 128] rfl rfl (cell_one_new _ _ _) (by simp [Value.oneCell']) (by unfold maxLen; omega) (by omega) ?_; intro v' w1 honto; obtain ⟨A', c', rfl⟩ := onto_shape honto)
                    go_roundw
                    case rel => exact ⟨kz ++ [128], A', c', by simp, by simp; omega, by simpa [Nat.add_assoc] using honto⟩
                    case measure => simp [lenOf]; omega
                · obtain ⟨g, o', cap', hv, _, _, hcell⟩ := HO.out.value HC.out HCM.out (.inr (by omega))
                  simp only [Value.slice.injEq, true_and] at hv
                  obtain ⟨rfl, rfl⟩ := hv
                  have hconv := run_convert_bytes_arg (P := Try.prog) wr 48 5 Try.underlying48 Try.underlying5 g o' (s.size + kz.length) c ((s.data.toList.map fun c => (c.toNat : Int)) ++ kz) (by simp) (fun j hj => by
                    rw [hcell j (by omega)]
                    have hm : ((s.data.toList.map fun c => Value.int .u8 c.toNat) ++ kz.map (Value.int .u8)) = (((s.data.toList.map fun c => (c.toNat : Int)) ++ kz).map (Value.int .u8)) := by simp
                    rw [hm, List.getElem?_map]
                    rw [List.getElem?_eq_getElem (by simp; omega)]
                    simp [List.getD, List.getElem?_eq_getElem (show j < ((s.data.toList.map fun c => (c.toNat : Int)) ++ kz).length by simp; omega)]) 9 Try.underlying9
                  have hsz : (strOfNums ((s.data.toList.map fun c => (c.toNat : Int)) ++ kz)).size ≤ maxLen := by rw [strOfNums_size]; simp; unfold maxLen; omega
                  clear hcell
                  generalize strOfNums ((s.data.toList.map fun c => (c.toNat : Int)) ++ kz) = st at *
                  have HB4 := Lib.hid (onto_bel HBW.out HO.out hbb)
                  go_wp2_with (go_at_call 21; refine (scal_any _ _ hsz).mono ?_; rintro e w5 ⟨rfl, hb5⟩)
                  · go_ret
                    exact ⟨true, rfl, (Bel.of HB.out).trans ((HB4.out.and hb5 HB4.out.size).mono (by rw [HZ.out]; omega))⟩
                  · go_roundw
                    case rel => exact ⟨m + 1, by omega, by omega, by go_num, HB4.out.and hb5 HB4.out.size⟩
                    case measure => simp [intOf]; omega
            · go_wp2
              go_roundw
              case rel => exact ⟨q + 1, by omega, by go_num, Hb3.out⟩
              case measure => simp [intOf]; omega
        · go_wp2
          go_roundw
          case rel => exact ⟨i + 1, by omega, by go_num, Hb2.out⟩
          case measure => simp [intOf]; omega
    · go_wp2
      go_ret
      exact ⟨false, rfl, (Bel.of HB.out).trans (Hb1.out.mono (by rw [HZ.out]; omega))⟩

end Go.Proofs.Ytppeahlnpidheaa
