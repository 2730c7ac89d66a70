/- QtreeCut, walked (printed by gen_cut.py). -/
import Derived.Deep.LoopGhost
import Derived.Test.YtmopeandckmgcaaDoorTa
import Derived.Test.YtmopeandckmgcaaDoorTd
import Derived.Test.YtmopeandckmgcaaDoorTu
namespace Go.Proofs.YtmopeandckmgcaaDoor
open Go.RowKit

theorem cbel2 (w : World) (o o' : Obj) : Bel w.heap.size w ((w.alloc o).alloc o') := ((Bel.refl _ _).alloc (Nat.le_refl _) _).alloc (by simp) _
theorem capp_list (a b : ByteArray) : (a ++ b).data.toList = a.data.toList ++ b.data.toList := by simp [ByteArray.data_append]
/-- Whatever Parse tells. -/
theorem parse_gen (u : ByteArray) (w : World) (hs : u.size ≤ 1000000) : Calls Tryd.prog 9 #[.string u] w fun e w' => ∃ ab A n c x a, e = .returned (.tuple #[.agg #[.bool ab, .slice A n c], .agg #[.int .i64 x, .int .i64 a]]) ∧ Bel w.heap.size w w' := by
  cases h : parseT true u.data.toList with
  | error y => exact (parse_err (x := y.1) (a := y.2) w hs h).mono fun e w' hh => ⟨false, none, 0, 0, y.1, y.2, hh.1, hh.2⟩
  | ok p =>
    refine (parse_ok w hs h).mono ?_
    rintro e w' ⟨m, A, c, rfl, _, hb⟩
    exact ⟨_, _, _, _, _, _, rfl, hb⟩

set_option maxRecDepth 100000 in
set_option maxHeartbeats 4000000 in
theorem cut_long (s : ByteArray) (w : World) (h : s.size = 0 ∨ (300 < s.size ∧ s.size ≤ 9223372036854775807)) : Calls Tryd.prog 6 #[.string s] w fun e w' => e = .returned (.bool true) ∧ Bel w.heap.size w w' := by
  have HB := Lib.hid (Bel.refl w.heap.size w)
  rcases h with h | ⟨h, h'⟩
  · go_enter Tryd.func6, Tryd.ntmps6
    go_wp2_with (go_at_call 7; refine (awake_any _).mono ?_; rintro e w1 ⟨rfl, hb⟩; have HB := Lib.hid (HB.out.next hb); clear hb)
    go_ret
    exact ⟨rfl, HB.out⟩
  · go_enter Tryd.func6, Tryd.ntmps6
    go_wp2_with (go_at_call 7; refine (awake_any _).mono ?_; rintro e w1 ⟨rfl, hb⟩; have HB := Lib.hid (HB.out.next hb); clear hb)
    go_ret
    exact ⟨rfl, HB.out⟩

set_option maxRecDepth 100000 in
set_option maxHeartbeats 4000000 in
theorem cut_other (s : ByteArray) (w : World) (k : Nat) (hk : s.size = k + 1) (hlen : k ≤ 299) (h3 : k < s.size) (hb : ((s[k].toNat : Int) != 93) = true) : Calls Tryd.prog 6 #[.string s] w fun e w' => e = .returned (.bool true) ∧ Bel w.heap.size w w' := by
  have HB := Lib.hid (Bel.refl w.heap.size w)
  go_enter Tryd.func6, Tryd.ntmps6
  go_wp2_with (go_at_call 7; refine (awake_any _).mono ?_; rintro e w1 ⟨rfl, hb⟩; have HB := Lib.hid (HB.out.next hb); clear hb)
  go_ret
  exact ⟨rfl, HB.out⟩

set_option maxRecDepth 100000 in
set_option maxHeartbeats 4000000 in
theorem cut_err (s : ByteArray) (w : World) (k : Nat) (hk : s.size = k + 1) (hlen : k ≤ 299) (h3 : k < s.size) (hb : ((s[k].toNat : Int) != 93) = false) (x a : Int) (hp : parseT true s.data.toList = .error (x, a))
    (U2 U3 U4 : ByteArray) (h2 : U2 = s.extract 0 k) (h3' : U3 = s ++ ⟨#[93]⟩) (h4 : U4 = s.extract 0 k ++ ⟨#[44, 93]⟩) (z2 : U2.size ≤ 1000000) (z3 : U3.size ≤ 1000000) (z4 : U4.size ≤ 1000000) : Calls Tryd.prog 6 #[.string s] w fun e w' => e = .returned (.bool true) ∧ Bel w.heap.size w w' := by
  have HB := Lib.hid (Bel.refl w.heap.size w)
  have hx := bne_iff_ne.2 (parse_ne hp)
  have HP1 := Lib.hid (fun W => parse_err (s := s) W (by omega) hp)
  have HP2 := Lib.hid (fun W => parse_gen U2 W z2)
  have HP3 := Lib.hid (fun W => parse_gen U3 W z3)
  have HP4 := Lib.hid (fun W => parse_gen U4 W z4)
  subst h2 h3' h4
  have hI : ((k : Int) + 1) ≤ 300 := by omega
  have hI2 : decide ((300 : Int) < (k : Int) + 1) = false := decide_eq_false (by omega)
  clear hp z2 z3 z4
  go_enter Tryd.func6, Tryd.ntmps6
  go_wp2_with (first | (go_at_call 7; refine (awake_any _).mono ?_; rintro e w1 ⟨rfl, hb⟩; have HB := Lib.hid (HB.out.next hb); clear hb) | (go_at_call 9; (with_reducible refine (HP1.out _).mono ?_); rintro e w2 ⟨rfl, hb⟩; have HB1 := Lib.hid ((HB.out.next hb).next (cbel2 w2 (.cells #[.bool false, .slice none 0 0] 33) (.cells #[.int .i64 x, .int .i64 a] 26))); have FA1 := Lib.hid (Blk.new1 w2 (.cells #[.bool false, .slice none 0 0] 33) 26 #[.int .i64 x, .int .i64 a]); clear hb) | (go_at_call 9; (with_reducible refine (HP2.out _).mono ?_); rintro e w3 ⟨ab2, A2, n2, c2, x2, a2, rfl, hb⟩; have HB2 := Lib.hid ((HB1.out.next hb).next (cbel2 w3 (.cells #[.bool ab2, .slice A2 n2 c2] 33) (.cells #[.int .i64 x2, .int .i64 a2] 26))); have FA2 := Lib.hid (((FA1.out.bel hb FA1.out.lt).alloc (.cells #[.bool ab2, .slice A2 n2 c2] 33)).alloc (.cells #[.int .i64 x2, .int .i64 a2] 26)); have FB2 := Lib.hid (Blk.new1 w3 (.cells #[.bool ab2, .slice A2 n2 c2] 33) 26 #[.int .i64 x2, .int .i64 a2]); clear hb) | (go_at_call 9; (with_reducible refine (HP3.out _).mono ?_); rintro e w4 ⟨ab3, A3, n3, c3, x3, a3, rfl, hb⟩; have HB3 := Lib.hid ((HB2.out.next hb).next (cbel2 w4 (.cells #[.bool ab3, .slice A3 n3 c3] 33) (.cells #[.int .i64 x3, .int .i64 a3] 26))); have FA3 := Lib.hid (((FA2.out.bel hb FA2.out.lt).alloc (.cells #[.bool ab3, .slice A3 n3 c3] 33)).alloc (.cells #[.int .i64 x3, .int .i64 a3] 26)); have FC3 := Lib.hid (Blk.new1 w4 (.cells #[.bool ab3, .slice A3 n3 c3] 33) 26 #[.int .i64 x3, .int .i64 a3]); clear hb) | (go_at_call 9; (with_reducible refine (HP4.out _).mono ?_); rintro e w5 ⟨ab4, A4, n4, c4, x4, a4, rfl, hb⟩; have HB4 := Lib.hid ((HB3.out.next hb).next (cbel2 w5 (.cells #[.bool ab4, .slice A4 n4 c4] 33) (.cells #[.int .i64 x4, .int .i64 a4] 26))); have FA4 := Lib.hid (((FA3.out.bel hb FA3.out.lt).alloc (.cells #[.bool ab4, .slice A4 n4 c4] 33)).alloc (.cells #[.int .i64 x4, .int .i64 a4] 26)); have FD4 := Lib.hid (Blk.new1 w5 (.cells #[.bool ab4, .slice A4 n4 c4] 33) 26 #[.int .i64 x4, .int .i64 a4]); clear hb; obtain ⟨az, ⟨a0, a1⟩, ⟨af0, af1⟩⟩ := FA4.out.c2))
  go_ret
  exact ⟨rfl, HB4.out⟩

set_option maxRecDepth 100000 in
set_option maxHeartbeats 4000000 in
theorem cut_ok (s : ByteArray) (w : World) (k : Nat) (hk : s.size = k + 1) (hlen : k ≤ 299) (h3 : k < s.size) (hb : ((s[k].toNat : Int) != 93) = false) (p : PathT) (hp : parseT true s.data.toList = .ok p)
    (U2 U3 U4 : ByteArray) (h2 : U2 = s.extract 0 k) (h3' : U3 = s ++ ⟨#[93]⟩) (h4 : U4 = s.extract 0 k ++ ⟨#[44, 93]⟩) (z2 : U2.size ≤ 1000000) (z3 : U3.size ≤ 1000000) (z4 : U4.size ≤ 1000000)
    (x2 a2 x4 a4 : Int) (p2 : parseT true U2.data.toList = .error (x2, a2)) (p3 : parseT true U3.data.toList = .error (3, (k : Int) + 1)) (p4 : parseT true U4.data.toList = .error (x4, a4)) : Calls Tryd.prog 6 #[.string s] w fun e w' => e = .returned (.bool true) ∧ Bel w.heap.size w w' := by
  have HB := Lib.hid (Bel.refl w.heap.size w)
  have hx2 := bne_iff_ne.2 (parse_ne p2)
  have hx4 := bne_iff_ne.2 (parse_ne p4)
  have HP1 := Lib.hid (fun W => parse_ok (s := s) W (by omega) hp)
  have HP2 := Lib.hid (fun W => parse_err (s := U2) W z2 p2)
  have HP3 := Lib.hid (fun W => parse_err (s := U3) W z3 p3)
  have HP4 := Lib.hid (fun W => parse_err (s := U4) W z4 p4)
  subst h2 h3' h4
  have hI : ((k : Int) + 1) ≤ 300 := by omega
  have hI2 : decide ((300 : Int) < (k : Int) + 1) = false := decide_eq_false (by omega)
  clear hp z2 z3 z4 p2 p3 p4
  go_enter Tryd.func6, Tryd.ntmps6
  go_wp2_with (first | (go_at_call 7; refine (awake_any _).mono ?_; rintro e w1 ⟨rfl, hb⟩; have HB := Lib.hid (HB.out.next hb); clear hb) | (go_at_call 9; (with_reducible refine (HP1.out _).mono ?_); rintro e w2 ⟨m1, A1, c1, rfl, hsg, hb⟩; have HB1 := Lib.hid ((HB.out.next hb).next (cbel2 w2 (.cells #[.bool p.abs, .slice A1 p.segs.length c1] 33) (.cells #[.int .i64 0, .int .i64 0] 26))); have FA1 := Lib.hid (Blk.new1 w2 (.cells #[.bool p.abs, .slice A1 p.segs.length c1] 33) 26 #[.int .i64 0, .int .i64 0]); clear hb hsg) | (go_at_call 9; (with_reducible refine (HP2.out _).mono ?_); rintro e w3 ⟨rfl, hb⟩; have HB2 := Lib.hid ((HB1.out.next hb).next (cbel2 w3 (.cells #[.bool false, .slice none 0 0] 33) (.cells #[.int .i64 x2, .int .i64 a2] 26))); have FA2 := Lib.hid (((FA1.out.bel hb FA1.out.lt).alloc (.cells #[.bool false, .slice none 0 0] 33)).alloc (.cells #[.int .i64 x2, .int .i64 a2] 26)); have FB2 := Lib.hid (Blk.new1 w3 (.cells #[.bool false, .slice none 0 0] 33) 26 #[.int .i64 x2, .int .i64 a2]); clear hb) | (go_at_call 9; (with_reducible refine (HP3.out _).mono ?_); rintro e w4 ⟨rfl, hb⟩; have HB3 := Lib.hid ((HB2.out.next hb).next (cbel2 w4 (.cells #[.bool false, .slice none 0 0] 33) (.cells #[.int .i64 3, .int .i64 ((k : Int) + 1)] 26))); have FA3 := Lib.hid (((FA2.out.bel hb FA2.out.lt).alloc (.cells #[.bool false, .slice none 0 0] 33)).alloc (.cells #[.int .i64 3, .int .i64 ((k : Int) + 1)] 26)); have FB3 := Lib.hid (((FB2.out.bel hb FB2.out.lt).alloc (.cells #[.bool false, .slice none 0 0] 33)).alloc (.cells #[.int .i64 3, .int .i64 ((k : Int) + 1)] 26)); have FC3 := Lib.hid (Blk.new1 w4 (.cells #[.bool false, .slice none 0 0] 33) 26 #[.int .i64 3, .int .i64 ((k : Int) + 1)]); clear hb) | (go_at_call 9; (with_reducible refine (HP4.out _).mono ?_); rintro e w5 ⟨rfl, hb⟩; have HB4 := Lib.hid ((HB3.out.next hb).next (cbel2 w5 (.cells #[.bool false, .slice none 0 0] 33) (.cells #[.int .i64 x4, .int .i64 a4] 26))); have FA4 := Lib.hid (((FA3.out.bel hb FA3.out.lt).alloc (.cells #[.bool false, .slice none 0 0] 33)).alloc (.cells #[.int .i64 x4, .int .i64 a4] 26)); have FB4 := Lib.hid (((FB3.out.bel hb FB3.out.lt).alloc (.cells #[.bool false, .slice none 0 0] 33)).alloc (.cells #[.int .i64 x4, .int .i64 a4] 26)); have FC4 := Lib.hid (((FC3.out.bel hb FC3.out.lt).alloc (.cells #[.bool false, .slice none 0 0] 33)).alloc (.cells #[.int .i64 x4, .int .i64 a4] 26)); have FD4 := Lib.hid (Blk.new1 w5 (.cells #[.bool false, .slice none 0 0] 33) 26 #[.int .i64 x4, .int .i64 a4]); clear hb; obtain ⟨az, ⟨a0, a1⟩, ⟨af0, af1⟩⟩ := FA4.out.c2; obtain ⟨bz, ⟨b0, b1⟩, ⟨bf0, bf1⟩⟩ := FB4.out.c2; obtain ⟨cz, ⟨c0, c1⟩, ⟨cf0, cf1⟩⟩ := FC4.out.c2; obtain ⟨dz, ⟨d0, d1⟩, ⟨df0, df1⟩⟩ := FD4.out.c2))
  go_ret
  exact ⟨rfl, HB4.out⟩
theorem cutLaw_any (s : ByteArray) (w : World) (hs : s.size ≤ maxLen) : Calls Tryd.prog 6 #[.string s] w fun e w' => e = .returned (.bool true) ∧ Bel w.heap.size w w' := by
  unfold maxLen at hs
  by_cases h0 : s.size = 0
  · exact cut_long s w (.inl h0)
  by_cases h1 : 300 < s.size
  · exact cut_long s w (.inr ⟨h1, by omega⟩)
  obtain ⟨k, hk⟩ : ∃ k, s.size = k + 1 := ⟨s.size - 1, by omega⟩
  have h3 : k < s.size := by omega
  cases hb : ((s[k].toNat : Int) != 93) with
  | true => exact cut_other s w k hk (by omega) h3 hb
  | false =>
    have hbyte : s[k] = 93 := by
      rw [bne_eq_false_iff_eq] at hb
      apply UInt8.toNat_inj.1
      show s[k].toNat = 93
      omega
    have hlist : s.data.toList = (s.extract 0 k).data.toList ++ [93] := by
      rw [ext_take]
      have hl : k < s.data.toList.length := by rw [len_toList]; exact h3
      have hg : s.data.toList[k] = 93 := by rw [← hbyte]; rfl
      rw [← hg]
      have h4 := List.take_append_drop k s.data.toList
      rw [List.drop_eq_getElem_cons hl, List.drop_of_length_le (by rw [len_toList]; omega)] at h4
      exact h4.symm
    have hz0 : (s.extract 0 k).size = k := by rw [ByteArray.size_extract]; omega
    have hl0 : (s.extract 0 k).data.toList.length = k := by rw [len_toList, hz0]
    obtain ⟨U2, hU2⟩ : ∃ U, U = s.extract 0 k := ⟨_, rfl⟩
    obtain ⟨U3, hU3⟩ : ∃ U : ByteArray, U = s ++ ⟨#[93]⟩ := ⟨_, rfl⟩
    obtain ⟨U4, hU4⟩ : ∃ U : ByteArray, U = s.extract 0 k ++ ⟨#[44, 93]⟩ := ⟨_, rfl⟩
    have z2 : U2.size ≤ 1000000 := by rw [hU2, hz0]; omega
    have z3 : U3.size ≤ 1000000 := by rw [hU3, ByteArray.size_append]; show s.size + 1 ≤ 1000000; omega
    have z4 : U4.size ≤ 1000000 := by rw [hU4, ByteArray.size_append, hz0]; show k + 2 ≤ 1000000; omega
    cases hp : parseT true s.data.toList with
    | error y => exact cut_err s w k hk (by omega) h3 hb y.1 y.2 hp U2 U3 U4 hU2 hU3 hU4 z2 z3 z4
    | ok p =>
      have hp' := hp
      rw [hlist] at hp'
      obtain ⟨c1, c2, c3⟩ := cut_law hp' (by rw [hl0]; omega)
      have l2 : U2.data.toList = (s.extract 0 k).data.toList := by rw [hU2]
      have l3 : U3.data.toList = (s.extract 0 k).data.toList ++ [93, 93] := by
        rw [hU3, capp_list, hlist, List.append_assoc]; rfl
      have l4 : U4.data.toList = (s.extract 0 k).data.toList ++ [44, 93] := by rw [hU4, capp_list]
      rw [hl0] at c2
      cases e2 : parseT true U2.data.toList with
      | ok q => rw [l2] at e2; exact absurd e2 (c1 q)
      | error y2 =>
        cases e4 : parseT true U4.data.toList with
        | ok q => rw [l4] at e4; exact absurd e4 (c3 q)
        | error y4 =>
          exact cut_ok s w k hk (by omega) h3 hb p hp U2 U3 U4 hU2 hU3 hU4 z2 z3 z4 y2.1 y2.2 y4.1 y4.2 e2 (by rw [l3, c2]; rfl) e4

end Go.Proofs.YtmopeandckmgcaaDoor
