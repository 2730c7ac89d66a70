/- G29: Xh, Xi joined. -/
import Derived.Deep.QuietTactic
import Derived.Deep.LoopGhost
import Derived.Test.YtpcbcodmocmilaaDoorXf
import Derived.Test.YtpcbcodmocmilaaDoorXg
namespace Go.Proofs.YtpcbcodmocmilaaDoor
open Go.RowKit
/- ref16: token: signs. -/
section
open Go.RowKit

theorem nin2' (s : ByteArray) (a : Nat) (h0 : a < s.size) (hd : ¬ (isDig s[a] = true ∨ s[a] = 45)) : digN (dr s a) = 0 ∧ ((s[a].toNat : Int) == 45) = false := by
  refine ⟨?_, u8_ne (n := 45) (fun h => hd (.inr h)) (by omega)⟩
  rw [show dr s a = s[a] :: dr s (a + 1) from drop_cons s a h0, digN, if_neg (fun h => hd (.inl h))]
/-- The list of signs in memory. -/
def SGm (w wr : World) (g : Nat) : Prop := RK w wr ∧ Blk wr g 9 sgA ∧ w.heap.size + 1 < g
theorem SGm.bel {w wr w2 : World} {g : Nat} (h : SGm w wr g) (hb : Bel wr.heap.size wr w2) : SGm w w2 g := ⟨h.1.bel hb, h.2.1.bel hb h.2.1.lt, h.2.2⟩

set_option maxRecDepth 100000 in
set_option maxHeartbeats 4000000 in
theorem rtok_sgn (s : ByteArray) (a : Nat) (w : World) (hs : s.size ≤ 1000000) (h0 : a < s.size) (hc : ¬ (s[a] = 34 ∨ s[a] = 39)) (hd_ : ¬ (isDig s[a] = true ∨ s[a] = 45)) (hn : nameL (dr s a) = 0) :
    Calls Tryd.prog 23 #[.string s, .int .i64 (a : Int)] w (ROne s a w) := by
  have HE := Lib.hid (rT_sgn s a h0 hc hd_ hn)
  obtain ⟨hq1, hq2⟩ := nine' s a h0 hc
  obtain ⟨hd0, hq4⟩ := nin2' s a h0 hd_
  have hna := fun w => rname_any s a w hs (by omega)
  rw [hn] at hna
  simp only [Nat.add_zero] at hna
  have hda := fun w => rdigits_at s a 0 w hs (by omega) (Lib.hid hd0)
  have hbi := s[a].toNat_lt
  have HR := Lib.hid (RK.start w)
  clear hc hd_ hn hd0
  go_enter Tryd.func23, Tryd.ntmps23
  generalize hQ : bodyPost Tryd.prog Tryd.f23 (ROne s a w) = Q
  have HQ := Lib.hid hQ; clear hQ
  go_upto_region 28 with (first | (go_at_call 41; refine (hna _).mono ?_; rintro e w2 ⟨rfl, hb⟩; have HR2 := Lib.hid (HR.out.bel hb); clear hb) | (go_at_call 42; refine (hda _).mono ?_; rintro e w' ⟨rfl, rfl⟩))
  have HS0 := Lib.hid (show SGm w (w2.alloc (.cells sgA 9)) w2.heap.size from ⟨HR2.out.bel bel_lit, Blk.new _ _ _, HR2.out.2.1.lt⟩)
  go_upto_region 29 with fail
  rw [show #[Value.string ⟨#[46, 46]⟩, Value.string ⟨#[38, 38]⟩, Value.string ⟨#[124, 124]⟩, Value.string ⟨#[61, 61]⟩, Value.string ⟨#[33, 61]⟩, Value.string ⟨#[60, 61]⟩, Value.string ⟨#[62, 61]⟩, Value.string ⟨#[36]⟩, Value.string ⟨#[64]⟩, Value.string ⟨#[46]⟩, Value.string ⟨#[91]⟩, Value.string ⟨#[93]⟩, Value.string ⟨#[40]⟩, Value.string ⟨#[41]⟩, Value.string ⟨#[42]⟩, Value.string ⟨#[44]⟩, Value.string ⟨#[58]⟩, Value.string ⟨#[63]⟩, Value.string ⟨#[33]⟩, Value.string ⟨#[60]⟩, Value.string ⟨#[62]⟩] = sgA from rfl]
  obtain ⟨g, hg⟩ : ∃ g, w2.heap.size = g := ⟨_, rfl⟩
  rw [hg] at HS0 ⊢
  generalize w2.alloc (.cells sgA 9) = w3 at HS0 ⊢
  clear hg HR2
  go_wp2
  go_loopg [17] 21 (fun k v wr => ∃ i : Nat, k = 21 - i ∧ i ≤ 21 ∧ v = .int .i64 i ∧ Hid (∀ j (hj : j < 21), j < i → preB (dr s a) (signsL[j]'(by rw [sg_len]; exact hj)) = false) ∧ Hid (SGm w wr g))
  case atStart => exact ⟨0, by omega, by omega, rfl, Lib.hid (fun j _ h => absurd h (by omega)), HS0⟩
  case round =>
    clear HS0
    obtain ⟨i, hgk, hi, rfl, HI, HS⟩ := hrel
    have HGK := Lib.hid hgk; clear hgk
    obtain ⟨⟨z1, z2⟩, ⟨c0, c1, c2, c3, c4⟩, ⟨f0, f1, f2, f3, f4⟩, d0, d1, d2, d3, d4⟩ := HS.out.1.cells
    have hgl := HS.out.2.1.lt
    by_cases hlt : i < 21
    · obtain ⟨x, hx⟩ : ∃ x, x = signsL[i]'(by rw [sg_len]; exact hlt) := ⟨_, rfl⟩
      have ci : wr.cell? ⟨g, i, none⟩ = some (.string (bs x)) := by
        rw [HS.out.2.1.cell i, sgA_get i hlt, hx]
      have hxs : (bs x).size ≤ 2 ∧ 0 < (bs x).size := by
        rw [← len_toList, bs_list, hx]
        exact ⟨(show ∀ y ∈ signsL, y.length ≤ 2 by decide) _ (List.getElem_mem _), (show ∀ y ∈ signsL, 0 < y.length by decide) _ (List.getElem_mem _)⟩
      have hxl : (bs x).size = x.length := by rw [← len_toList, bs_list]
      obtain ⟨m, hm⟩ : ∃ m, (bs x).size = m := ⟨_, rfl⟩
      rw [hm] at hxs hxl
      obtain ⟨hxs1, hxs2⟩ := hxs
      have HXL := Lib.hid hxl
      have HX := Lib.hid hx
      clear hxl hx
      have hi21 : (i : Int) < 21 := by omega
      by_cases hlen : a + m ≤ s.size
      · have g1 : (m : Int) ≤ (s.size : Int) - (a : Int) := by omega
        have q1 : IntKind.i64.wrap ((a : Int) + (m : Int)) = (a : Int) + (m : Int) := IntWalk.i64_in _ (by omega)
        have q2 : 0 ≤ (a : Int) + (m : Int) := by omega
        have q3 : ((a : Int) + (m : Int)).toNat = a + m := by omega
        have q4 : (a : Int) + (m : Int) ≤ (s.size : Int) := by omega
        have q5 : IntKind.i64.wrap ((s.size : Int) - (a : Int)) = (s.size : Int) - (a : Int) := IntWalk.i64_in _ (by omega)
        have hd1 : decide ((m : Int) ≤ (s.size : Int) - (a : Int)) = true := by simpa using g1
        cases hp : preB (dr s a) x with
        | true =>
          have HE := Lib.hid (show tokT (dr s a) = .ok (1, x, 0, x.length) by
            rw [HE.out, find_from (dr s a) i hlt (by rw [← HX.out]; exact hp) HI.out, ← HX.out])
          have hst : ((s.extract a (a + m)).toList == (bs x).toList) = true := str_t (bs_of (by rw [ext_mid, HXL.out]; unfold preB at hp; simpa using hp))
          clear hp
          go_wp2
          go_quiet (fail)
          go_wp2
          rw [← HQ.out]
          exact bodyPost_ret (v := .tuple #[.agg #[.int .i64 1, .string (bs x), .int .i64 0, .int .i64 (a : Nat), .bool false], .int .i64 ((a : Int) + (m : Int)), .int .i64 0]) (by simp [results, Tryd.results23, go_sem, d0, d1, d2, d3, d4]) rfl ⟨ROneE.yes HE.out rfl (by rw [← HXL.out]; omega), bel_s5 (HS.out.1.2.2.drewN _)⟩
        | false =>
          have HI := Lib.hid (show ∀ j (hj : j < 21), j < i + 1 → preB (dr s a) (signsL[j]'(by rw [sg_len]; exact hj)) = false by
            intro j hj hji
            by_cases e : j = i
            · subst e; rw [← HX.out]; exact hp
            · exact HI.out j hj (by omega))
          have hst : ((s.extract a (a + m)).toList == (bs x).toList) = false := str_f (by
            intro e
            have e2 := congrArg (fun b : ByteArray => b.data.toList) e
            simp only [bs_list] at e2
            rw [ext_mid, HXL.out] at e2
            unfold preB at hp
            rw [e2] at hp; simp at hp)
          clear hp
          go_wp2
          go_quiet (fail)
          go_wp2
          go_roundg (21 - (i + 1))
          case measure => have := HGK.out; simp; omega
          case rel => exact ⟨i + 1, rfl, by omega, by go_num, HI, Lib.hid (HS.out.bel ((Bel.refl _ _).drewN _))⟩
      · have g1 : ¬ (m : Int) ≤ (s.size : Int) - (a : Int) := by omega
        have q5 : IntKind.i64.wrap ((s.size : Int) - (a : Int)) = (s.size : Int) - (a : Int) := IntWalk.i64_in _ (by omega)
        have hd1 : decide ((m : Int) ≤ (s.size : Int) - (a : Int)) = false := by simpa using g1
        have HI := Lib.hid (show ∀ j (hj : j < 21), j < i + 1 → preB (dr s a) (signsL[j]'(by rw [sg_len]; exact hj)) = false by
          intro j hj hji
          by_cases e : j = i
          · subst e; rw [← HX.out]
            unfold preB
            rw [beq_eq_false_iff_ne]
            intro e2
            have e3 := congrArg List.length e2
            rw [List.length_take, dr, List.length_drop, len_toList] at e3
            have := HXL.out
            omega
          · exact HI.out j hj (by omega))
        go_wp2
        go_quiet (fail)
        go_wp2
        go_roundg (21 - (i + 1))
        case measure => have := HGK.out; simp; omega
        case rel => exact ⟨i + 1, rfl, by omega, by go_num, HI, Lib.hid (HS.out.bel ((Bel.refl _ _).drewN _))⟩
    · have HE := Lib.hid (show tokT (dr s a) = .error 3 by rw [HE.out, find_no (dr s a) (fun j hj => HI.out j hj (by omega))])
      go_wp2
      rw [← HQ.out]
      exact bodyPost_ret (v := .tuple #[.agg #[.int .i64 0, .string ⟨#[]⟩, .int .i64 0, .int .i64 0, .bool false], .int .i64 0, .int .i64 3]) (by simp [results, Tryd.results23, go_sem, d0, d1, d2, d3, d4]) rfl ⟨ROneE.no HE.out, bel_s5 HS.out.1.2.2⟩

end
/- ref16: token, blank, Lex. -/
section
open Go.RowKit

theorem rtok_any (s : ByteArray) (a : Nat) (w : World) (hs : s.size ≤ 1000000) (h0 : a < s.size) :
    Calls Tryd.prog 23 #[.string s, .int .i64 (a : Int)] w (ROne s a w) := by
  by_cases hc : s[a] = 34 ∨ s[a] = 39
  · exact rtok_str s a w hs h0 hc
  · by_cases hd_ : isDig s[a] = true ∨ s[a] = 45
    · exact rtok_num s a w hs h0 hc hd_
    · rcases Nat.eq_zero_or_pos (nameL (dr s a)) with hn | hn
      · exact rtok_sgn s a w hs h0 hc hd_ hn
      · exact rtok_nam s a w hs h0 hc hn
set_option maxHeartbeats 400000 in
theorem rblank_any (c : UInt8) (w : World) :
    Calls Tryd.prog 22 #[.int .u8 (c.toNat : Int)] w fun e w' => e = .returned (.bool (isBk c)) ∧ w = w' := by
  have hc := c.toNat_lt
  have key : ∀ n : UInt8, (c == n) = ((c.toNat : Int) == (n.toNat : Int)) := fun n => by rw [Bool.eq_iff_iff, beq_iff_eq, beq_iff_eq, ← UInt8.toNat_inj]; omega
  have HE := Lib.hid (show isBk c = ((c.toNat : Int) == 32 || (c.toNat : Int) == 9 || (c.toNat : Int) == 10 || (c.toNat : Int) == 13) by unfold isBk; rw [key, key, key, key]; rfl)
  obtain ⟨b0, h0⟩ : ∃ b0, ((c.toNat : Int) == 32) = b0 := ⟨_, rfl⟩
  obtain ⟨b1, h1⟩ : ∃ b1, ((c.toNat : Int) == 9) = b1 := ⟨_, rfl⟩
  obtain ⟨b2, h2⟩ : ∃ b2, ((c.toNat : Int) == 10) = b2 := ⟨_, rfl⟩
  obtain ⟨b3, h3⟩ : ∃ b3, ((c.toNat : Int) == 13) = b3 := ⟨_, rfl⟩
  rw [h0, h1, h2, h3] at HE
  clear key
  cases b0 <;> cases b1 <;> cases b2 <;> cases b3
  all_goals
    go_enter Tryd.func22, Tryd.ntmps22
    go_wp2
    go_ret
    exact ⟨ret_bool (by rw [HE.out]; rfl), rfl⟩
theorem rblank_at (c : UInt8) (b : Bool) (w : World) (h : Hid (isBk c = b)) :
    Calls Tryd.prog 22 #[.int .u8 (c.toNat : Int)] w fun e w' => e = .returned (.bool b) ∧ w = w' := by
  rw [← h.out]; exact rblank_any c w

set_option maxRecDepth 100000 in
set_option maxHeartbeats 4000000 in
theorem rlex_long (s : ByteArray) (w : World) (hs : s.size ≤ 1000000) (hlong : 4096 < s.size) :
    Calls Tryd.prog 12 #[.string s] w (LexP s.data.toList w) := by
  have HE := Lib.hid (lexL_long (l := s.data.toList) (by rw [len_toList]; exact hlong))
  go_enter Tryd.func12, Tryd.ntmps12
  generalize hQ : bodyPost Tryd.prog Tryd.f12 (LexP s.data.toList w) = Q
  have HQ := Lib.hid hQ; clear hQ
  go_wp2
  rw [← HQ.out]
  exact bodyPost_ret (v := .tuple #[.slice none 0 0, .agg #[.int .i64 4, .int .i64 0]]) (by simp [results, Tryd.results12, go_sem]) rfl (LexP.no HE.out bel_lit)

end

end Go.Proofs.YtpcbcodmocmilaaDoor
