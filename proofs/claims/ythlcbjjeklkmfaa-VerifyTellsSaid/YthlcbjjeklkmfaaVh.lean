/- verify: end, instruction. -/
import Derived.Test.YthlcbjjeklkmfaaVg
namespace Go.Proofs.Ythlcbjjeklkmfaa
open Go.RowKit

def endF (l : List InsD) : Option Nat := l.findIdx? (fun x => x.op == 5)
def endI (cd : CodeD) (at_ : Int) : Option Nat := if at_ < 0 then none else endF (cd.is.drop at_.toNat)
def EndP (cd : CodeD) (at_ : Int) (w : World) (e : Ending) (w' : World) : Prop := Bel w.heap.size w w' ∧ match endI cd at_ with | some n => e = .returned (.int .i64 (at_ + (n : Int))) | none => e = .panicked FAULT
theorem endF_cons (x : InsD) (l : List InsD) : endF (x :: l) = if x.op == 5 then some 0 else (endF l).map (· + 1) := by
  unfold endF; rw [List.findIdx?_cons]
theorem map_add (o : Option Nat) (k : Nat) : (o.map (· + 1)).map (· + k) = o.map (· + (k + 1)) := by cases o <;> simp <;> omega

set_option maxRecDepth 100000 in
set_option maxHeartbeats 1000000 in
theorem end_any (A1 A2 A3 A4 : Option Addr) (c1 c2 c3 c4 : Nat) (cd : CodeD) (at_ : Int) (w : World) (h : CM w A1 A2 A3 A4 cd) (l4 : cd.is.length ≤ 1000000000) :
    Calls Try.prog 20 #[.agg #[.slice A1 cd.ps.length c1, .slice A2 cd.gs.length c2, .slice A3 cd.ss.length c3, .slice A4 cd.is.length c4], .int .i64 at_] w (EndP cd at_ w) := by
  have hT : ∀ w' n, Bel w.heap.size w w' → endI cd at_ = some n → EndP cd at_ w (.returned (.int .i64 (at_ + (n : Int)))) w' := fun w' n hb ht => ⟨hb, by rw [ht]⟩
  have hP : ∀ w', Bel w.heap.size w w' → endI cd at_ = none → EndP cd at_ w (.panicked FAULT) w' := fun w' hb ht => ⟨hb, by rw [ht]⟩
  generalize hPp : EndP cd at_ w = PP at hT hP ⊢
  have HT := Lib.hid hT; have HP := Lib.hid hP; clear hT hP hPp
  by_cases h0 : 0 ≤ at_
  rotate_left
  · have HF := Lib.hid (show endI cd at_ = none by unfold endI; rw [if_pos (by omega)])
    clear h
    go_enter Try.func20, Try.ntmps20
    go_wp2_with (go_at_call 12; refine (need_any _ _).mono ?_; rintro e w2 ⟨he, rfl⟩; obtain rfl := (show _ = _ by first | exact np_t he | exact np_f he))
    exact ⟨rfl, HP.out _ ((Bel.refl _ _).alloc (Nat.le_refl _) _) HF.out⟩
  · obtain ⟨a, rfl⟩ : ∃ a : Nat, at_ = a := ⟨at_.toNat, by omega⟩
    have HE := Lib.hid (show endI cd (a : Int) = (endF (cd.is.drop (a + 0))).map (· + 0) by unfold endI; rw [if_neg (by omega), Int.toNat_natCast]; cases endF (cd.is.drop (a + 0)) <;> simp_all)
    have HH := Lib.hid h
    clear h h0
    go_enter Try.func20, Try.ntmps20
    go_wp2_with (go_at_call 12; refine (need_any _ _).mono ?_; rintro e w2 ⟨he, rfl⟩; obtain rfl := (show _ = _ by first | exact np_t he | exact np_f he))
    go_loopw [1] (fun i wr => ∃ k : Nat, (k = 0 ∨ a + k ≤ cd.is.length) ∧ i = .int .i64 ((a + k : Nat) : Int) ∧ wr = w.alloc (.cells #[.slice A1 cd.ps.length c1, .slice A2 cd.gs.length c2, .slice A3 cd.ss.length c3, .slice A4 cd.is.length c4] 27) ∧ Hid (endI cd (a : Int) = (endF (cd.is.drop (a + k))).map (· + k))) (fun i _ => cd.is.length - (intOf i).toNat)
    case atStart => exact ⟨0, .inl rfl, rfl, rfl, HE⟩
    case round =>
      clear HE
      obtain ⟨k, hk0, rfl, rfl, HE⟩ := hrel
      obtain ⟨j, hj⟩ : ∃ j, a + k = j := ⟨_, rfl⟩
      have HJ := Lib.hid hj
      rw [hj] at HE hk0 ⊢
      clear hj
      by_cases hlt : j < cd.is.length
      · obtain ⟨x, hx⟩ : ∃ x, cd.is[j]? = some x := ⟨_, List.getElem?_eq_getElem hlt⟩
        have HST := Lib.hid (show endF (cd.is.drop j) = if x.op == 5 then some 0 else (endF (cd.is.drop (j + 1))).map (· + 1) by
          have hxj : cd.is[j] = x := by rw [List.getElem?_eq_getElem hlt] at hx; injection hx
          rw [List.drop_eq_getElem_cons hlt, hxj, endF_cons])
        obtain ⟨b4, o4, e4, hb4, hc4⟩ := HH.out.i.resolve_left (by intro e; rw [e] at hlt; simp at hlt)
        subst e4
        obtain ⟨g0, _⟩ := hc4 j x hx
        have hjl : (j : Int) < cd.is.length := by omega
        obtain ⟨op, hop⟩ : ∃ op, x.op = op := ⟨_, rfl⟩
        rw [hop] at g0 HST
        clear hc4 hx hop
        by_cases h5 : op = 5
        · subst h5
          have HF := Lib.hid (show endI cd (a : Int) = some k by rw [HE.out, HST.out]; simp)
          clear HE HST
          go_wp2_with (go_at_call 12; refine (need_any _ _).mono ?_; rintro e w2 ⟨he, rfl⟩; obtain rfl := (show _ = _ by first | exact np_t he | exact np_f he))
          have := HT.out (w.alloc (.cells #[.slice A1 cd.ps.length c1, .slice A2 cd.gs.length c2, .slice A3 cd.ss.length c3, .slice (some ⟨b4, o4, none⟩) cd.is.length c4] 27)) k ((Bel.refl _ _).alloc (Nat.le_refl _) _) HF.out
          rw [show (a : Int) + (k : Int) = (j : Int) by have := HJ.out; omega] at this
          exact this
        · have hd5 : (op == 5) = false := beq_eq_false_iff_ne.2 h5
          have HN := Lib.hid (show endI cd (a : Int) = (endF (cd.is.drop (j + 1))).map (· + (k + 1)) by rw [HE.out, HST.out, hd5]; simp only [Bool.false_eq_true, if_false]; exact map_add _ _)
          clear HE HST
          go_wp2_with (go_at_call 12; refine (need_any _ _).mono ?_; rintro e w2 ⟨he, rfl⟩; obtain rfl := (show _ = _ by first | exact np_t he | exact np_f he))
          go_roundw
          case rel => exact ⟨k + 1, .inr (by have := HJ.out; omega), by have := HJ.out; rw [show a + (k + 1) = j + 1 by omega]; go_num, trivial, by have := HJ.out; rw [show a + (k + 1) = j + 1 by omega]; exact HN⟩
          case measure => simp [intOf]; omega
      · have HF := Lib.hid (show endI cd (a : Int) = none by rw [HE.out, List.drop_eq_nil_of_le (by omega)]; rfl)
        have hjl : ¬ (j : Int) < cd.is.length := by omega
        clear HE
        go_wp2_with (go_at_call 12; refine (need_any _ _).mono ?_; rintro e w2 ⟨he, rfl⟩; obtain rfl := (show _ = _ by first | exact np_t he | exact np_f he))
        exact ⟨rfl, HP.out _ ((Bel.refl _ _).alloc (Nat.le_refl _) _) HF.out⟩

end Go.Proofs.Ythlcbjjeklkmfaa
