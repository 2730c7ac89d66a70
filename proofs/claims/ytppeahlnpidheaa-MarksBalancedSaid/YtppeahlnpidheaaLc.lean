/- The law MarksStrings walked. -/
import Derived.Test.YtppeahlnpidheaaLb
namespace Go.Proofs.Ytppeahlnpidheaa
open Go.RowKit

theorem Rd.new (w : World) (xs : List Value) (t : TypeId) (m : Nat × Nat) : Rd (w.alloc (.cells xs.toArray t m)) (some ⟨w.heap.size, 0, none⟩) xs :=
  .inr ⟨w.heap.size, 0, rfl, by simp, fun i u hu => by
    rw [Nat.zero_add, World.cell?_alloc_mark]; simpa using hu⟩

theorem fieldR0 (n d : Int) (ok : Bool) (w : World) : (Instr.field 24 (.agg #[.int .i64 n, .bool ok, .int .i64 d]) 0).run Try.prog w = .ok (.int .i64 n) w := by kernel_rfl
theorem fieldR1 (n d : Int) (ok : Bool) (w : World) : (Instr.field 24 (.agg #[.int .i64 n, .bool ok, .int .i64 d]) 1).run Try.prog w = .ok (.bool ok) w := by kernel_rfl
theorem fieldR2 (n d : Int) (ok : Bool) (w : World) : (Instr.field 24 (.agg #[.int .i64 n, .bool ok, .int .i64 d]) 2).run Try.prog w = .ok (.int .i64 d) w := by kernel_rfl

set_option maxRecDepth 100000 in
set_option maxHeartbeats 2000000 in
theorem marksStrings_any (s : ByteArray) (w : World) (hs : s.size ≤ maxLen) :
    Calls Try.prog 3 #[.string s] w fun e w' => e = .returned (.bool true) ∧ Bel w.heap.size w w' := by
  unfold maxLen at hs
  have hf0 := fieldR0; have hf1 := fieldR1
  by_cases h200 : s.size ≤ 200
  · have hstr : ∀ w, Calls Try.prog 8 #[.string s, .int .i64 0] w (SPost w 0 (strL s.data.toList)) := fun w => by simpa using str_any s 0 w (by omega) (by omega)
    have HB := Lib.hid (Bel.refl w.heap.size w)
    cases hl : strL s.data.toList with
    | none =>
      rw [hl] at hstr
      clear hl
      go_enter Try.func3, Try.ntmps3
      go_wp2_with (first
        | (go_at_call 7; refine (awake_any _).mono ?_; rintro e w' ⟨rfl, hb⟩; have HB := Lib.hid (HB.out.next hb); clear hb)
        | (go_at_call 8; refine (hstr _).mono ?_; rintro e w' ⟨⟨m, rfl⟩, hb⟩; simp only [RV]; have HB := Lib.hid (HB.out.next hb); clear hb))
      go_ret
      exact ⟨rfl, HB.out⟩
    | some n =>
      rw [hl] at hstr
      by_cases hn : n = s.size
      · subst hn
        have hms := marks_strings s.data.toList (by rw [hl]; simp)
        have hX : ([91] ++ s.data.toList ++ [44] ++ s.data.toList ++ [93]) = (⟨#[91]⟩ ++ s ++ ⟨#[44]⟩ ++ s ++ ⟨#[93]⟩ : ByteArray).data.toList := by simp
        rw [hX] at hms
        have hp := fun w => places_any (⟨#[91]⟩ ++ s ++ ⟨#[44]⟩ ++ s ++ ⟨#[93]⟩ : ByteArray) (by
          have z1 : (⟨#[91]⟩ : ByteArray).size = 1 := rfl
          have z2 : (⟨#[44]⟩ : ByteArray).size = 1 := rfl
          have z3 : (⟨#[93]⟩ : ByteArray).size = 1 := rfl
          simp only [ByteArray.size_append, z1, z2, z3]; omega) w
        have hq := fun w => places_any s (by omega) w
        have e1 : marksI (⟨#[91]⟩ ++ s ++ ⟨#[44]⟩ ++ s ++ ⟨#[93]⟩ : ByteArray).data.toList = [0, 1 + (s.size : Int), 2 + 2 * (s.size : Int)] := by
          have := congrArg (List.map (fun n : Nat => (n : Int))) hms.2
          simpa [marksI, Function.comp_def] using this
        have e2 : marksI s.data.toList = [] := by simp [marksI, hms.1]
        rw [e1] at hp; rw [e2] at hq
        clear hms hX e1 e2 hl
        have HP := Lib.hid hp; have HQ := Lib.hid hq; clear hp hq
        go_enter Try.func3, Try.ntmps3
        go_wp2_with (first
          | (go_at_call 7; refine (awake_any _).mono ?_; rintro e w' ⟨rfl, hb⟩; have HB := Lib.hid (HB.out.next hb); clear hb)
          | (go_at_call 8; refine (hstr _).mono ?_; rintro e w' ⟨rfl, hb⟩; simp only [RV]; have HB := Lib.hid (HB.out.next hb); clear hb))
        refine (HP.out _).mono ?_
        rintro e w3 ⟨A, c, rfl, hrd, hb⟩
        have HB := Lib.hid (HB.out.next hb)
        clear hb
        have HR := Lib.hid hrd
        clear hrd
        go_wp2_with (first
          | (go_at_call 10; refine (sameInts_any A _ [0, 1 + (s.size : Int), 2 + 2 * (s.size : Int)] [0, 1 + (s.size : Int), 2 + 2 * (s.size : Int)] c 3 _ (by simp [maxLen]) (by simp [maxLen]) (HR.out.alloc _) (Rd.new _ _ _ _)).mono ?_; rintro e w4 ⟨rfl, hb⟩; have HB := Lib.hid ((HB.out.alloc HB.out.size _).and hb (by have := HB.out.size; simp; omega)); clear hb)
          | (go_at_call 9; refine (HQ.out _).mono ?_; rintro e w5 ⟨A2, c2, rfl, _, hb⟩; have HB := Lib.hid (HB.out.next hb); clear hb))
        go_ret
        exact ⟨rfl, HB.out⟩
      · have hne : (((n : Nat) : Int) != s.size) = true := by simp; omega
        clear hl hn
        go_enter Try.func3, Try.ntmps3
        go_wp2_with (first
          | (go_at_call 7; refine (awake_any _).mono ?_; rintro e w' ⟨rfl, hb⟩; have HB := Lib.hid (HB.out.next hb); clear hb)
          | (go_at_call 8; refine (hstr _).mono ?_; rintro e w' ⟨rfl, hb⟩; simp only [RV]; have HB := Lib.hid (HB.out.next hb); clear hb))
        go_ret
        exact ⟨rfl, HB.out⟩
  · have HB := Lib.hid (Bel.refl w.heap.size w)
    go_enter Try.func3, Try.ntmps3
    go_wp2_with (go_at_call 7; refine (awake_any _).mono ?_; rintro e w' ⟨rfl, hb⟩; have HB := Lib.hid (HB.out.next hb); clear hb)
    go_ret
    exact ⟨rfl, HB.out⟩

end Go.Proofs.Ytppeahlnpidheaa
