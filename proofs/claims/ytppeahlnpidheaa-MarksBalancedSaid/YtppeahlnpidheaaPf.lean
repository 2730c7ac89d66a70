/- The law MarksTwo walked. -/
import Derived.WalkSmall
import Derived.Test.YtppeahlnpidheaaJw
import Derived.Test.YtppeahlnpidheaaPm
import Derived.Test.YtppeahlnpidheaaLc
import Derived.Test.YtppeahlnpidheaaMb
namespace Go.Proofs.Ytppeahlnpidheaa
open Go.RowKit

def F2 (s t : ByteArray) : Prop := ∀ w : World, Calls Try.prog 6 #[.string s, .string t] w fun e w' => e = .returned (.bool true) ∧ Bel w.heap.size w w'

set_option maxRecDepth 100000 in
set_option maxHeartbeats 2000000 in
theorem two_big1 (s t : ByteArray) (hs : s.size ≤ 9223372036854775807) (ht : t.size ≤ 9223372036854775807) (h : 300 < s.size) : F2 s t := by
  intro w
  have HB := Lib.hid (Bel.refl w.heap.size w)
  go_enter Try.func6, Try.ntmps6
  go_wp2_with (go_at_call 7; refine (awake_any _).mono ?_; rintro e w' ⟨rfl, hb⟩; have HB := Lib.hid (HB.out.next hb); clear hb)
  go_ret
  exact ⟨rfl, HB.out⟩

set_option maxRecDepth 100000 in
set_option maxHeartbeats 2000000 in
theorem two_big2 (s t : ByteArray) (hs : s.size ≤ 9223372036854775807) (ht : t.size ≤ 9223372036854775807) (h0 : s.size ≤ 300) (h : 300 < t.size) : F2 s t := by
  intro w
  have HB := Lib.hid (Bel.refl w.heap.size w)
  go_enter Try.func6, Try.ntmps6
  go_wp2_with (go_at_call 7; refine (awake_any _).mono ?_; rintro e w' ⟨rfl, hb⟩; have HB := Lib.hid (HB.out.next hb); clear hb)
  go_ret
  exact ⟨rfl, HB.out⟩

set_option maxRecDepth 100000 in
set_option maxHeartbeats 2000000 in
theorem two_no (s t : ByteArray) (h0 : s.size ≤ 300) (h : t.size ≤ 300) (hx : textL s.data.toList = none) : F2 s t := by
  intro w
  have HB := Lib.hid (Bel.refl w.heap.size w)
  have htx := text_any s (by omega)
  rw [hx] at htx
  clear hx
  have hf1 := fieldR1
  go_enter Try.func6, Try.ntmps6
  go_wp2_with (first
    | (go_at_call 7; refine (awake_any _).mono ?_; rintro e w' ⟨rfl, hb⟩; have HB := Lib.hid (HB.out.next hb); clear hb)
    | (go_at_call 17; refine (htx _).mono ?_; rintro e w' ⟨m, d, rfl, hb⟩; simp only [RV, Option.isSome]; have HB := Lib.hid (HB.out.next hb); clear hb))
  go_ret
  exact ⟨rfl, HB.out⟩

theorem mk_shift : ∀ (l : List UInt8) (st p q : Nat), mk st l (p + q) = (mk st l p).map (fun x => (x.1 + q, x.2))
  | [], st, p, q => by rw [mk_nil, mk_nil]; rfl
  | c :: r, st, p, q => by
    have h0 := mk_shift r 0 (p + 1) q; have h1 := mk_shift r 1 (p + 1) q; have h2 := mk_shift r 2 (p + 1) q
    rw [show p + 1 + q = p + q + 1 by omega] at h0 h1 h2
    rw [mk, mk]
    split
    · exact h1
    · split
      · split
        · exact h2
        · split
          · exact h0
          · exact h1
      · split
        · exact h1
        · split
          · rw [h0]; rfl
          · exact h0
theorem mk_pos : ∀ (st : Nat) (l : List UInt8) (p : Nat), ∀ x ∈ mk st l p, p ≤ x.1 ∧ x.1 < p + l.length
  | st, [], p => by rw [mk_nil]; simp
  | st, c :: r, p => by
    have h0 := mk_pos 0 r (p + 1); have h1 := mk_pos 1 r (p + 1); have h2 := mk_pos 2 r (p + 1)
    intro x hx
    rw [mk] at hx
    have key : ∀ s', x ∈ mk s' r (p + 1) → (∀ x ∈ mk s' r (p + 1), p + 1 ≤ x.1 ∧ x.1 < p + 1 + r.length) → p ≤ x.1 ∧ x.1 < p + (c :: r).length := by
      intro s' h k; have := k x h; simp; omega
    split at hx
    · exact key _ hx h1
    · split at hx
      · split at hx
        · exact key _ hx h2
        · split at hx
          · exact key _ hx h0
          · exact key _ hx h1
      · split at hx
        · exact key _ hx h1
        · split at hx
          · rcases List.mem_cons.1 hx with rfl | hx
            · simp
            · exact key _ hx h0
          · exact key _ hx h0
theorem places_own (s : ByteArray) (hs : s.size * 8 ≤ 140737488355328) (l : List Int) (hl : marksI s.data.toList = l) (w : World) :
    Calls Try.prog 9 #[.string s] w fun e w' => ∃ A c, e = .returned (.slice A l.length c) ∧ w'.ownsRow w.heap.size 3 1 (.slice A l.length c) l.length (l.map (Value.int .i64)) ∧ Bel w.heap.size w w' := by
  subst hl
  refine (callsIn_wide.1 (places_in 3 (by omega) s hs w)).mono ?_
  rintro e w' ⟨v, rfl, hown, _, hb⟩
  obtain ⟨A, c, rfl, hl, hrd, _⟩ := Rd.of_own hown
  simp only [List.length_map] at *
  refine ⟨A, c, by rw [marksI, List.length_map], ?_, Bel.of hb⟩
  rw [marksI, List.map_map, List.length_map]; exact hown
theorem parens_own (s : ByteArray) (hs : s.size * 2 ≤ 140737488355328) (l : List Bool) (hl : marksB s.data.toList = l) (w : World) :
    Calls Try.prog 15 #[.string s] w fun e w' => ∃ A c, e = .returned (.slice A l.length c) ∧ w'.ownsRow w.heap.size 4 1 (.slice A l.length c) l.length (l.map Value.bool) ∧ Bel w.heap.size w w' := by
  subst hl
  refine (callsIn_wide.1 (parens_in 3 (by omega) s hs w)).mono ?_
  rintro e w' ⟨v, rfl, hown, _, hb⟩
  obtain ⟨A, c, rfl, hl, hrd, _⟩ := Rd.of_own hown
  simp only [List.length_map] at *
  exact ⟨A, c, rfl, hown, Bel.of hb⟩
theorem one_bools (l : List Bool) : ∀ u ∈ l.map Value.bool, u.oneCell' = true := by
  intro u hu; obtain ⟨b, _, rfl⟩ := List.mem_map.1 hu; rfl
theorem reads_own {w : World} {base : Nat} {e : TypeId} {A : Option Addr} {n c : Nat} {xs : List Value} (h : w.ownsRow base e 1 (.slice A n c) n xs) : Reads w w.heap.size 1 A n xs := Reads.of_own h
theorem rd_own {w : World} {base : Nat} {e : TypeId} {A : Option Addr} {n c : Nat} {xs : List Value} (h : w.ownsRow base e 1 (.slice A n c) n xs) : Rd w A xs := by
  obtain ⟨A', cap, hs, hl, hr, _⟩ := Rd.of_own h
  cases hs; exact hr

set_option maxRecDepth 100000 in
set_option maxHeartbeats 4000000 in
theorem two_yes (s t : ByteArray) (h0 : s.size ≤ 300) (h : t.size ≤ 300) (d : Nat) (hx : textL s.data.toList = some d)
    (L1 L2 L3 : List Int) (B1 B2 B3 : List Bool) (hL3 : Hid (L3 = L1 ++ L2.map (· + (s.size : Int)))) (hB3 : Hid (B3 = B1 ++ B2)) (hl1 : L1.length ≤ 300) (hl2 : L2.length ≤ 300) (hb1 : B1.length ≤ 600) (hb2 : B2.length ≤ 600)
    (e1 : marksI s.data.toList = L1) (e2 : marksI t.data.toList = L2) (e3 : marksI (s ++ t).data.toList = L3) (hr : ∀ x ∈ L2, 0 ≤ x ∧ x ≤ 300)
    (f1 : marksB s.data.toList = B1) (f2 : marksB t.data.toList = B2) (f3 : marksB (s ++ t).data.toList = B3) : F2 s t := by
  intro w
  obtain ⟨i0, hi, hz0, hz1, hz2⟩ := info_parts info_int2
  obtain ⟨j0, hj, hy0, hy1, hy2⟩ := info_parts info_bool
  have HB := Lib.hid (Bel.refl w.heap.size w)
  have htx := text_any s (by omega)
  rw [hx] at htx
  clear hx
  have hf1 := fieldR1
  have hp1 := fun w => places_own s (by omega) _ e1 w
  have hp2 := fun w => places_own t (by omega) _ e2 w
  have hp3 := fun w => places_own (s ++ t) (by simp; omega) _ e3 w
  have hq1 := fun w => parens_own s (by omega) _ f1 w
  have hq2 := fun w => parens_own t (by omega) _ f2 w
  have hq3 := fun w => parens_own (s ++ t) (by simp; omega) _ f3 w
  clear e1 e2 e3 f1 f2 f3
  go_enter Try.func6, Try.ntmps6
  go_upto_region 3 with (first
    | (go_at_call 7; refine (awake_any _).mono ?_; rintro e w' ⟨rfl, hb⟩; have HB := Lib.hid (HB.out.next hb); clear hb)
    | (go_at_call 17; refine (htx _).mono ?_; rintro e w0 ⟨m, d, rfl, hb⟩; simp only [RV, Option.isSome]; have HB := Lib.hid (HB.out.next hb); clear hb))
  go_wp2_with fail
  refine (hp1 _).mono ?_
  rintro e w1 ⟨A1, c1, rfl, ho1, hb1'⟩
  have HO1 := Lib.hid ho1
  have HE := Lib.hid (ownsRow_bel (World.ownsRow_lit (base := w.heap.size) (e := 3) (size := 1) w0 #[] 0 HB.out.size (by unfold maxLen; omega) (by simp)) hb1' (Nat.le_refl _))
  have HB1 := Lib.hid ((HB.out.alloc HB.out.size (.cells #[] 3)).next hb1')
  clear ho1 hb1'
  go_wp2_with (at_builtin; refine wpList_append_any _ rfl (.tmp 28) (.tmp 30) 26 rfl w.heap.size 3 i0 (.int .i64 0) 1 8 Try.underlying26 hi hz0 hz1 hz2 rfl (by decide) (.slice (some ⟨w0.heap.size, 0, none⟩) 0 0) 0 [] rfl HE.out w1.heap.size A1 L1.length c1 (L1.map (Value.int .i64)) rfl (reads_own HO1.out) (by simp [Value.oneCell']) (by unfold maxLen; omega) (by omega) HB1.out.size ?_; intro v2 w2 hown2 hg2 hat2; have HO2 := Lib.hid hown2; have HB2 := Lib.hid (HB1.out.trans (grown_bel hg2 HB1.out.size (fun k hk => (World.ownsRow.lt HE.out k hk).1))); clear hown2 hg2 hat2)
  refine (hp2 _).mono ?_
  rintro e w3 ⟨A3, c3, rfl, ho3, hb3⟩
  have HX := Lib.hid (RdX.of_own ho3 (v := v2) (fun k hk => (World.ownsRow.lt HO2.out k hk).2))
  have HO2 := Lib.hid (ownsRow_bel HO2.out hb3 (Nat.le_refl _))
  have HB3 := Lib.hid (HB2.out.next hb3)
  clear ho3 hb3
  go_wp2
  go_loopw [5, 7] (fun v i wr => ∃ k : Nat, k ≤ L2.length ∧ i = .int .i64 k ∧ Hid (wr.ownsRow w.heap.size 3 1 v (L1.length + k) (L1.map (Value.int .i64) ++ (L2.take k).map (fun x => Value.int .i64 (x + (s.size : Int))))) ∧ Hid (RdX wr A3 (L2.map (Value.int .i64)) v) ∧ Hid (Bel w.heap.size w wr)) (fun _ i _ => L2.length - (intOf i).toNat)
  case atStart => exact ⟨0, by omega, rfl, Lib.hid (by simpa using HO2.out), HX, HB3⟩
  case round =>
    clear HO2 HX HB3
    obtain ⟨k, hk, rfl, HO, HX, HB⟩ := hrel
    by_cases hlt : k < L2.length
    · obtain ⟨b, off, rfl, hbl, hc⟩ := HX.out.pos (by simpa using (by omega : 0 < L2.length))
      have hc1 := hc k (.int .i64 L2[k]) (by simp [hlt])
      have hxr := hr L2[k] (List.getElem_mem _)
      have HT := Lib.hid (show (L2.take (k + 1)).map (fun x => Value.int .i64 (x + (s.size : Int))) = (L2.take k).map (fun x => Value.int .i64 (x + (s.size : Int))) ++ [Value.int .i64 (L2[k] + (s.size : Int))] by rw [List.take_succ_eq_append_getElem hlt, List.map_append]; rfl)
      generalize L2[k] = x at *
      clear hc hr
      obtain ⟨hx1, hx2⟩ := hxr
      go_wp2_with (at_builtin; refine wpList_append_any _ rfl (.tmp 40) (.tmp 48) 26 rfl w.heap.size 3 i0 (.int .i64 0) 1 8 Try.underlying26 hi hz0 hz1 hz2 rfl (by decide) _ _ _ rfl (HO.out.alloc _) (wr.heap.size + 1) (some ⟨wr.heap.size, 0, none⟩) 1 1 [.int .i64 (x + (s.size : Int))] rfl ⟨rfl, fun _ => ⟨_, rfl, by show wr.heap.size < _; omega, cell_one_new _ _ _⟩⟩ (by simp [Value.oneCell']) (by unfold maxLen; omega) (by omega) (by have := HB.out.size; simp; omega) ?_; intro v4 w4 hown4 hg4 hat4; have HO4 := Lib.hid hown4; have HX4 := Lib.hid (HX.out.grown _ hg4 hat4); have HB4 := Lib.hid ((HB.out.alloc HB.out.size _).trans (grown_bel hg4 (by have := HB.out.size; simp; omega) (fun k hk => (World.ownsRow.lt HO.out k hk).1))); clear hown4 hg4 hat4)
      go_roundw
      case rel => exact ⟨k + 1, by omega, by go_num, by rw [HT.out, ← List.append_assoc]; exact HO4, HX4, HB4⟩
      case measure => simp [intOf] <;> omega
    · have hkl : k = L2.length := by omega
      have hl4 : L3.length = L1.length + L2.length := by rw [hL3.out]; simp
      have HO := Lib.hid (show wr.ownsRow w.heap.size 3 1 _ L3.length (L3.map (Value.int .i64)) by
        have h1 := HO.out
        rw [hkl, List.take_length] at h1
        rw [hl4, hL3.out, List.map_append, List.map_map]; exact h1)
      obtain ⟨A5, c5, rfl, _, hr5, _⟩ := Rd.of_own HO.out
      have HR5 := Lib.hid hr5
      rw [List.length_map] at *
      have hl3 : L3.length ≤ 600 := by omega
      clear hl4
      clear hr5 hkl HX hr
      go_wp2_with fail
      refine (hq1 _).mono ?_
      rintro e w6 ⟨A6, c6, rfl, ho6, hb6⟩
      have HO6 := Lib.hid ho6
      have HE6 := Lib.hid (ownsRow_bel (World.ownsRow_lit (base := wr.heap.size) (e := 4) (size := 1) wr #[] 0 (Nat.le_refl _) (by unfold maxLen; omega) (by simp)) hb6 (Nat.le_refl _))
      have HB6 := Lib.hid (((Bel.refl wr.heap.size wr).alloc (Nat.le_refl _) (.cells #[] 4)).next hb6)
      clear ho6 hb6
      go_wp2_with (at_builtin; refine wpList_append_any _ rfl (.tmp 50) (.tmp 52) 32 rfl wr.heap.size 4 j0 (.bool false) 1 1 Try.underlying32 hj hy0 hy1 hy2 rfl (by decide) (.slice (some ⟨wr.heap.size, 0, none⟩) 0 0) 0 [] rfl HE6.out w6.heap.size A6 B1.length c6 (B1.map Value.bool) rfl (reads_own HO6.out) (one_bools _) (by unfold maxLen; omega) (by omega) HB6.out.size ?_; intro v7 w7 hown7 hg7 hat7; have HO7 := Lib.hid hown7; have HB7 := Lib.hid (HB6.out.trans (grown_bel hg7 HB6.out.size (fun k hk => (World.ownsRow.lt HE6.out k hk).1))); clear hown7 hg7 hat7)
      refine (hq2 _).mono ?_
      rintro e w8 ⟨A8, c8, rfl, ho8, hb8⟩
      have HO8 := Lib.hid ho8
      have HO7 := Lib.hid (ownsRow_bel HO7.out hb8 (Nat.le_refl _))
      have HB8 := Lib.hid (HB7.out.next hb8)
      clear ho8 hb8
      go_wp2_with (at_builtin; refine wpList_append_any _ rfl (.tmp 54) (.tmp 56) 32 rfl wr.heap.size 4 j0 (.bool false) 1 1 Try.underlying32 hj hy0 hy1 hy2 rfl (by decide) v7 (0 + B1.length) ([] ++ B1.map Value.bool) rfl HO7.out w8.heap.size A8 B2.length c8 (B2.map Value.bool) rfl (reads_own HO8.out) (one_bools _) (by unfold maxLen; omega) (by omega) HB8.out.size ?_; intro v9 w9 hown9 hg9 hat9; have HO9 := Lib.hid hown9; have HB9 := Lib.hid (HB8.out.trans (grown_bel hg9 HB8.out.size (fun k hk => (World.ownsRow.lt HO7.out k hk).1))); clear hown9 hg9 hat9)
      refine (hp3 _).mono ?_
      rintro e w10 ⟨A10, c10, rfl, ho10, hb10⟩
      have HR10 := Lib.hid (rd_own ho10)
      have HR5 := Lib.hid (HR5.out.bel (HB9.out.next hb10) (Nat.le_refl _))
      have HO9 := Lib.hid (ownsRow_bel HO9.out hb10 (Nat.le_refl _))
      have HB10 := Lib.hid (HB9.out.next hb10)
      clear ho10 hb10
      have hb4 : B3.length = B1.length + B2.length := by rw [hB3.out]; simp
      have HO9 := Lib.hid (show w10.ownsRow wr.heap.size 4 1 v9 B3.length (B3.map Value.bool) by
        have h1 := HO9.out
        rw [hb4, hB3.out, List.map_append]; simpa using h1)
      obtain ⟨A9, c9, rfl, _, hr9, _⟩ := Rd.of_own HO9.out
      have HR9 := Lib.hid hr9
      rw [List.length_map] at *
      have hb3 : B3.length ≤ 1200 := by omega
      clear hb4
      clear hr9
      go_wp2_with fail
      refine (sameInts_any A5 A10 L3 L3 c5 c10 _ (by unfold maxLen; omega) (by unfold maxLen; omega) HR5.out HR10.out).mono ?_
      rintro e w11 ⟨rfl, hb11⟩
      rw [decide_eq_true (rfl : L3 = L3)]
      have HR9 := Lib.hid (HR9.out.bel (Bel.of hb11) (Nat.le_refl _))
      have HB11 := Lib.hid (HB10.out.next (Bel.of hb11))
      clear hb11
      go_wp2_with fail
      refine (hq3 _).mono ?_
      rintro e w12 ⟨A12, c12, rfl, ho12, hb12⟩
      have HR12 := Lib.hid (rd_own ho12)
      have HR9 := Lib.hid (HR9.out.bel hb12 (Nat.le_refl _))
      have HB12 := Lib.hid (HB11.out.next hb12)
      clear ho12 hb12
      go_wp2_with fail
      refine (sameBits_any A9 A12 B3 B3 c9 c12 _ (by unfold maxLen; omega) (by unfold maxLen; omega) HR9.out HR12.out).mono ?_
      rintro e w13 ⟨rfl, hb13⟩
      rw [decide_eq_true (rfl : B3 = B3)]
      have HB13 := Lib.hid (HB12.out.next (Bel.of hb13))
      clear hb13
      go_wp2
      go_ret
      exact ⟨rfl, HB.out.next HB13.out⟩

theorem two_any (s t : ByteArray) (w : World) (hs : s.size ≤ 9223372036854775807) (ht : t.size ≤ 9223372036854775807) :
    Calls Try.prog 6 #[.string s, .string t] w fun e w' => e = .returned (.bool true) ∧ Bel w.heap.size w w' := by
  by_cases h0 : s.size ≤ 300
  · by_cases h : t.size ≤ 300
    · cases hx : textL s.data.toList with
      | none => exact two_no s t h0 h hx w
      | some d =>
        have hm : mk 0 (s ++ t).data.toList 0 = mk 0 s.data.toList 0 ++ mk 0 t.data.toList (0 + s.data.toList.length) := by
          have := marks_two hx t.data.toList 0
          simpa using this
        have hsl : s.data.toList.length = s.size := by simp
        have hsh : ∀ (l : List UInt8) (st p q : Nat), mk st l (p + q) = (mk st l p).map (fun x => (x.1 + q, x.2)) := mk_shift
        have hl1 := mk_len 0 s.data.toList 0
        have hl2 := mk_len 0 t.data.toList 0
        have hq1 := parB_len (mk 0 s.data.toList 0)
        have hq2 := parB_len (mk 0 t.data.toList 0)
        have htl : t.data.toList.length = t.size := by simp
        rw [hsl] at hl1 hm; rw [htl] at hl2
        refine two_yes s t h0 h d hx (marksI s.data.toList) (marksI t.data.toList) (marksI (s ++ t).data.toList) (marksB s.data.toList) (marksB t.data.toList) (marksB (s ++ t).data.toList) ?_ ?_ ?_ ?_ ?_ ?_ rfl rfl rfl ?_ rfl rfl rfl w
        · refine Lib.hid ?_
          unfold marksI
          rw [hm, hsh, List.map_append, List.map_map, List.map_map]
          congr 1
          try (apply List.map_congr_left; intro x _; simp)
        · refine Lib.hid ?_
          unfold marksB
          rw [hm, hsh]
          simp [parB, List.flatMap_append, List.flatMap_map]
        · simp [marksI]; omega
        · simp [marksI]; omega
        · simp [marksB]; omega
        · simp [marksB]; omega
        · intro x hxm
          obtain ⟨y, hy, rfl⟩ := List.mem_map.1 hxm
          have := mk_pos 0 t.data.toList 0 y hy
          rw [htl] at this
          omega
    · exact two_big2 s t hs ht h0 (by omega) w
  · exact two_big1 s t hs ht (by omega) w

end Go.Proofs.Ytppeahlnpidheaa
