/- G27: Wf, Wk, Wl joined. -/
import Derived.Deep.QuietTactic
import Derived.Deep.CutBlock
import Derived.Deep.LoopGhost
import Derived.Test.YtpcbcodmocmilaaGreatDoorWe
import Derived.Test.YtpcbcodmocmilaaGreatDoorUp
import Derived.Test.YtpcbcodmocmilaaGreatDoorG25
namespace Go.Proofs.YtpcbcodmocmilaaGreatDoor
open Go.RowKit
/- qlex: digit, letter, nameLen, numberOf. -/
section
open Go.RowKit

set_option maxHeartbeats 400000 in
theorem qdig_any (c : Int) (w : World) :
    Calls Tryz.prog 74 #[.int .u8 c] w fun e w' => e = .returned (.bool (digB c)) ∧ w = w' := by
  unfold digB
  go_enter Tryz.func74, Tryz.ntmps74
  go_wp2
  all_goals (go_ret; exact ⟨ret_bool (by refine Bool.eq_iff_iff.2 ?_; simp <;> omega), rfl⟩)
theorem qdig_at (c : Int) (b : Bool) (w : World) (h : Hid (digB c = b)) :
    Calls Tryz.prog 74 #[.int .u8 c] w fun e w' => e = .returned (.bool b) ∧ w = w' := by
  rw [← h.out]; exact qdig_any c w
theorem uscal_at (s : ByteArray) (c n : Int) (w : World) (hs : s.size ≤ maxLen) (h : Hid (scalV s.data.toList = (c, n))) :
    Calls Tryz.prog 97 #[.string s] w fun e w' => e = .returned (.tuple #[.int .i64 c, .int .i64 n]) ∧ w = w' := by
  have := uscal_any s w hs
  rw [h.out] at this; exact this

set_option maxRecDepth 100000 in
set_option maxHeartbeats 1000000 in
theorem letter_any (s : ByteArray) (w : World) (hs : s.size ≤ maxLen) :
    Calls Tryz.prog 101 #[.string s] w fun e w' => e = .returned (.int .i64 (letL s.data.toList : Nat)) ∧ w = w' := by
  have hb := scalV_len s.data.toList
  obtain ⟨c, n, hcn⟩ : ∃ c n, scalV s.data.toList = (c, n) := ⟨_, _, rfl⟩
  have HE := Lib.hid (show letL s.data.toList = if isLet c && decide (0 < n) then n.toNat else 0 by rw [letL, hcn])
  rw [hcn] at hb
  obtain ⟨h0, _, h1⟩ := hb
  simp only at h0 h1
  have HS := Lib.hid hcn
  clear hcn
  go_enter Tryz.func101, Tryz.ntmps101
  go_wp2_with (go_at_call 97; refine (uscal_at _ _ _ _ hs HS).mono ?_; rintro e w' ⟨rfl, rfl⟩)
  all_goals
    go_ret
    exact ⟨ret_int (by
      rw [HE.out]; unfold isLet
      (try simp only [beq_iff_eq, beq_eq_false_iff_ne, ne_eq, decide_eq_true_eq, Bool.or_eq_true, Bool.and_eq_true] at *)
      split <;> omega), rfl⟩
theorem letter_at (s : ByteArray) (m : Nat) (w : World) (hs : s.size ≤ maxLen) (h : Hid (letL s.data.toList = m)) :
    Calls Tryz.prog 101 #[.string s] w fun e w' => e = .returned (.int .i64 m) ∧ w = w' := by
  rw [← h.out]; exact letter_any s w hs

set_option maxRecDepth 100000 in
set_option maxHeartbeats 2000000 in
theorem nameLen_any (s : ByteArray) (w : World) (hs : s.size ≤ 9223372036854775000) :
    Calls Tryz.prog 76 #[.string s] w fun e w' => e = .returned (.int .i64 (nameL s.data.toList : Nat)) ∧ w = w' := by
  obtain ⟨m, hm⟩ : ∃ m, letL s.data.toList = m := ⟨_, rfl⟩
  have hml : m ≤ s.size := by rw [← hm, ← len_toList]; exact letL_le _
  have HN := Lib.hid (show nameL s.data.toList = if m = 0 then 0 else m + namF s.size (dr s m) by rw [nameL, hm, len_toList]; rfl)
  have HM := Lib.hid hm
  clear hm
  have hsx : s.size ≤ maxLen := by unfold maxLen; omega
  by_cases h0 : m = 0
  · have HE := Lib.hid (show nameL s.data.toList = 0 by rw [HN.out, if_pos h0])
    subst h0
    clear HN
    go_enter Tryz.func76, Tryz.ntmps76
    go_wp2_with (go_at_call 101; refine (letter_at _ _ _ hsx HM).mono ?_; rintro e w' ⟨rfl, rfl⟩)
    go_loop [3] (fun v => v = .int .i64 0) (fun _ => 0)
    case atStart => rfl
    case round =>
      obtain rfl := hrel
      go_wp2
      go_ret
      exact ⟨ret_int (by rw [HE.out]; rfl), rfl⟩
  · have hm0 : 0 < m := by omega
    have HE := Lib.hid (show nameL s.data.toList = m + namF s.size (dr s m) by rw [HN.out, if_neg h0])
    clear h0 HN
    go_enter Tryz.func76, Tryz.ntmps76
    go_wp2_with (go_at_call 101; refine (letter_at _ _ _ hsx HM).mono ?_; rintro e w' ⟨rfl, rfl⟩)
    go_loop [3] (fun v => ∃ p f : Nat, 0 < p ∧ p ≤ s.size ∧ s.size ≤ p + f ∧ v = .int .i64 p ∧ Hid (nameL s.data.toList = p + namF f (dr s p))) (fun v => s.size - (intOf v).toNat)
    case atStart => exact ⟨m, s.size, hm0, hml, by omega, rfl, HE⟩
    case round =>
      obtain ⟨p, f, hp0, hp, hf, rfl, HP⟩ := hrel
      by_cases hlt : p < s.size
      · obtain ⟨k, hk⟩ : ∃ k, letL (dr s p) = k := ⟨_, rfl⟩
        have HK := Lib.hid (show letL (s.extract p s.size).data.toList = k by rw [ext_drop]; exact hk)
        have hkl : p + k ≤ s.size := by have := letL_le (dr s p); rw [hk, dr, List.length_drop, len_toList] at this; omega
        have hes : (s.extract p s.size).size ≤ maxLen := by simp; unfold maxLen; omega
        have hxr : letR (dr s p) = if k = 0 then (if isDig s[p] then 1 else 0) else k := by
          unfold letR; rw [hk, dr, drop_cons s p hlt]
        have hbi := s[p].toNat_lt
        obtain ⟨f', rfl⟩ : ∃ f', f = f' + 1 := ⟨f - 1, by omega⟩
        by_cases hk0 : k = 0
        · rw [if_pos hk0] at hxr
          have HK0 := Lib.hid hk0
          cases hb : digB (s[p].toNat : Int) with
          | true =>
            rw [digB_eq] at hb
            rw [if_pos hb] at hxr
            have HP := Lib.hid (show nameL s.data.toList = (p + 1 : Nat) + namF f' (dr s (p + 1)) by rw [HP.out, namF_go f' _ 1 hxr (by omega), dr_dr]; omega)
            have HB := Lib.hid (show digB (s[p].toNat : Int) = true by rw [digB_eq]; exact hb)
            subst hk0
            clear hb hxr hk
            go_wp2_with (first | (go_at_call 101; refine (letter_at _ _ _ hes HK).mono ?_; rintro e w' ⟨rfl, rfl⟩) | (go_at_call 74; refine (qdig_at _ _ _ HB).mono ?_; rintro e w' ⟨rfl, rfl⟩))
            go_round
            case rel => exact ⟨p + 1, f', by omega, by omega, by omega, by go_num, HP⟩
            case measure => simp [intOf] <;> omega
          | false =>
            rw [digB_eq] at hb
            have HP := Lib.hid (show nameL s.data.toList = p by rw [HP.out, namF_stop _ _ (by rw [hxr, hb]; rfl)]; rfl)
            have HB := Lib.hid (show digB (s[p].toNat : Int) = false by rw [digB_eq]; exact hb)
            subst hk0
            clear hb hxr hk
            go_wp2_with (first | (go_at_call 101; refine (letter_at _ _ _ hes HK).mono ?_; rintro e w' ⟨rfl, rfl⟩) | (go_at_call 74; refine (qdig_at _ _ _ HB).mono ?_; rintro e w' ⟨rfl, rfl⟩))
            go_ret
            exact ⟨ret_int (by rw [HP.out]), rfl⟩
        · have hk1 : 0 < k := by omega
          rw [if_neg hk0] at hxr
          have HP := Lib.hid (show nameL s.data.toList = (p + k : Nat) + namF f' (dr s (p + k)) by rw [HP.out, namF_go f' _ k hxr hk0, dr_dr]; omega)
          have hk2 : ((k : Int) == 0) = false := by simp; omega
          clear hk0 hxr hk
          go_wp2_with (first | (go_at_call 101; refine (letter_at _ _ _ hes HK).mono ?_; rintro e w' ⟨rfl, rfl⟩))
          go_round
          case rel => exact ⟨p + k, f', by omega, by omega, by omega, by go_num, HP⟩
          case measure => simp [intOf] <;> omega
      · have HP := Lib.hid (show nameL s.data.toList = p by rw [HP.out, namF_stop _ _ (by rw [dr, drop_nil s p (by omega)]; exact letR_nil)]; rfl)
        go_wp2
        go_ret
        exact ⟨ret_int (by rw [HP.out]), rfl⟩

end
/- qlex: char (text's closure), text. -/
section
open Go.RowKit

theorem escaped_q (c mark : UInt8) (u : Int) (w : World) (h : Hid (uval (escV mark c) = u)) :
    Calls Tryz.prog 99 #[.int .u8 (c.toNat : Int), .int .u8 (mark.toNat : Int)] w fun e w' => e = .returned (.int .i64 u) ∧ w' = w := by
  rw [← h.out]; exact (escaped_any c mark w).mono fun _ _ ⟨h1, h2⟩ => ⟨h1, h2.symm⟩

set_option maxRecDepth 100000 in
set_option maxHeartbeats 2000000 in
theorem char_any (b1 b5 b4 p : Nat) (s : ByteArray) (mark : UInt8) (w : World) (hs : s.size ≤ 1000000) (hp : p < s.size) (c1 : w.cell? ⟨b1, 0, none⟩ = some (.string s)) (c5 : w.cell? ⟨b5, 0, none⟩ = some (.int .i64 p)) (c4 : w.cell? ⟨b4, 0, none⟩ = some (.int .u8 mark.toNat)) :
    Calls Tryz.prog 96 #[.pointer (some ⟨b1, 0, none⟩), .pointer (some ⟨b5, 0, none⟩), .pointer (some ⟨b4, 0, none⟩)] w fun e w' => ChE (charT mark (dr s p)) e ∧ ∃ n, w' = w.drewN n := by
  have hbi := s[p].toNat_lt
  have hmk := mark.toNat_lt
  have hzp : (s.extract p s.size).size ≤ maxLen := by simp; unfold maxLen; omega
  by_cases h1 : (s[p].toNat : Int) < 32
  · have HE := Lib.hid (charT_ctl (mark := mark) hp h1)
    go_enter Tryz.func96, Tryz.ntmps96
    go_wp2
    go_ret2
    exact ⟨ChE.no HE.out _, 0, rfl⟩
  · by_cases h2 : (s[p].toNat : Int) = 92
    · have hb : ((s[p].toNat : Int) != 92) = false := by simp [h2]
      have hb' : ((s[p].toNat : Int) == 92) = true := by simp [h2]
      by_cases h3 : s.size ≤ p + 1
      · have HE := Lib.hid (charT_end (mark := mark) hp h2 h3)
        have h4 : ((p : Int) + 1 == (s.size : Int)) = true := by simp; omega
        clear h2 h3
        go_enter Tryz.func96, Tryz.ntmps96
        go_wp2
        go_ret2
        exact ⟨ChE.no HE.out _, 0, rfl⟩
      · have hp1 : p + 1 < s.size := by omega
        have h4 : ((p : Int) + 1 == (s.size : Int)) = false := by simp; omega
        have h4' : (p + 1 == s.size) = false := by simp; omega
        have hbi1 := s[p + 1].toNat_lt
        by_cases h5 : (s[p + 1].toNat : Int) = 117
        · have HE := Lib.hid (charT_u (mark := mark) hp1 h2 h5)
          have h6 : ((s[p + 1].toNat : Int) == 117) = true := by simp [h5]
          have hu := fun w => units_any (s.extract p s.size) w (by simp; omega) (by simp; omega)
          have hx : dr (s.extract p s.size) 2 = dr s (p + 2) := by unfold dr; rw [ext_drop, List.drop_drop]
          rw [hx, ← HE.out] at hu
          clear h2 h3 h5 hx
          cases hc : charT mark (dr s p) with
          | none =>
            rw [hc] at hu
            clear hc HE
            go_enter Tryz.func96, Tryz.ntmps96
            go_wp2_with (go_at_call 98; refine (hu _).mono ?_; rintro e w' ⟨⟨m, rfl⟩, rfl⟩)
            go_ret2
            exact ⟨⟨_, rfl⟩, 0, rfl⟩
          | some xn =>
            obtain ⟨x, n⟩ := xn
            rw [hc] at hu
            clear hc HE
            go_enter Tryz.func96, Tryz.ntmps96
            go_wp2_with (go_at_call 98; refine (hu _).mono ?_; rintro e w' ⟨rfl, rfl⟩)
            go_ret2
            exact ⟨rfl, 0, rfl⟩
        · have HX := Lib.hid (charT_e (mark := mark) hp1 h2 h5)
          have h6 : ((s[p + 1].toNat : Int) == 117) = false := by simp [h5]
          obtain ⟨u, hu⟩ : ∃ u, uval (escV mark s[p + 1]) = u := ⟨_, rfl⟩
          have HE := Lib.hid (show ChE (charT mark (dr s p)) (.returned (.tuple #[.int .i64 u, .int .i64 2])) by
            rw [HX.out, ← hu]
            cases escV mark s[p + 1] with
            | none => exact ⟨2, rfl⟩
            | some v => exact rfl)
          have HU := Lib.hid hu
          clear h2 h3 h5 hu HX
          go_enter Tryz.func96, Tryz.ntmps96
          go_wp2
          go_quiet ((go_at_call 99; exact Calls.quiet_of_same (escaped_q _ _ _ _ HU)))
          go_wp2
          go_ret2
          exact ⟨HE.out, _, rfl⟩
    · have hb : ((s[p].toNat : Int) != 92) = true := by simp [h2]
      have hb' : ((s[p].toNat : Int) == 92) = false := by simp [h2]
      obtain ⟨c, n, hcn⟩ : ∃ c n, scalV (dr s p) = (c, n) := ⟨_, _, rfl⟩
      have hX := charT_pl (mark := mark) hp h1 h2
      have hv := scalV_len (dr s p)
      rw [hcn] at hX hv
      simp only at hX hv
      have HS := Lib.hid (show scalV (s.extract p s.size).data.toList = (c, n) by rw [ext_drop]; exact hcn)
      have hn0 := hv.1
      clear hcn hv h2
      by_cases h3 : n = 0
      · have HE := Lib.hid (hX.trans (if_pos h3))
        subst h3
        clear hX
        go_enter Tryz.func96, Tryz.ntmps96
        go_wp2_with (go_at_call 97; refine (uscal_at _ _ _ _ hzp HS).mono ?_; rintro e w' ⟨rfl, rfl⟩)
        go_ret2
        exact ⟨ChE.no HE.out _, 0, rfl⟩
      · have HE := Lib.hid (hX.trans (if_neg h3))
        have h4 : (n == 0) = false := by simp [h3]
        have HN := Lib.hid (show n = (n.toNat : Int) by omega)
        clear hX h3
        go_enter Tryz.func96, Tryz.ntmps96
        go_wp2_with (go_at_call 97; refine (uscal_at _ _ _ _ hzp HS).mono ?_; rintro e w' ⟨rfl, rfl⟩)
        go_ret2
        exact ⟨ChE.yes HE.out rfl HN.out, 0, rfl⟩

end
/- qlex: text. -/
section
open Go.RowKit

theorem uput_at (c : Int) (w : World) (h : okS c) :
    Calls Tryz.prog 100 #[.int .i64 c] w fun e w' => e = .returned (.string (bs (putV c))) ∧ Below w.heap.size w w' := by
  have h' := h
  unfold okS at h'
  rw [← put_val c h]; exact uput_any c w h'.1 (by omega)

/-- The text's memory: s, mark and at in boxes, the builder. -/
def TX (w wr : World) (s : ByteArray) (mark : UInt8) (p : Nat) (t : List UInt8) : Prop :=
  Blk wr w.heap.size 9 #[.string s] ∧ Blk wr (w.heap.size + 1) 5 #[.int .u8 mark.toNat] ∧ Blk wr (w.heap.size + 1 + 1) 3 #[.int .i64 p] ∧
  Lib.IsBuilder 80 5 (w.heap.size + 1 + 1 + 1) (w.heap.size + 1 + 1 + 1) (Lib.byteCells t) wr ∧ Bel w.heap.size w wr ∧ w.heap.size + 1 + 1 + 1 < wr.heap.size
theorem IsB_keep {T e : TypeId} {B b : Nat} {l : List Value} {w w' : World} (h : Lib.IsBuilder T e B b l w) (hk : ∀ k, B ≤ k → k < w.heap.size → w'.heap[k]? = w.heap[k]?) : Lib.IsBuilder T e B b l w' := by
  have key : ∀ p, Lib.BuilderAt T e B b p l w → Lib.BuilderAt T e B b p l w' := by
    rintro p ⟨hB, v, hb, hown, hne⟩
    refine ⟨hB, v, (hk b hB ?_).trans hb, ⟨hown.1, ?_⟩, hne⟩
    · rcases Nat.lt_or_ge b w.heap.size with h' | h'
      · exact h'
      · simp [Array.getElem?_eq_none h'] at hb
    · rcases hown.2 with h | ⟨g, cap, cur, h1, h2, h3, h4⟩
      · exact .inl h
      · exact .inr ⟨g, cap, cur, h1, h2, (hk g h2 (Array.getElem?_eq_some_iff.1 h3).1).trans h3, h4⟩
  exact h.elim (fun h => .inl (key _ h)) (fun h => .inr (key _ h))
theorem IsB_new (w : World) (T e : TypeId) : Lib.IsBuilder T e w.heap.size w.heap.size [] (w.alloc (.cells #[.pointer none, .slice none 0 0] T)) :=
  .inl ⟨Nat.le_refl _, .slice none 0 0, heap_alloc_new w _, ⟨by simp, .inl ⟨rfl, rfl⟩⟩, by simp [Value.ownBlock]⟩
theorem TX.start (w : World) (s : ByteArray) (mark : UInt8) : TX w ((((w.alloc (.cells #[.string s] 9)).alloc (.cells #[.int .u8 mark.toNat] 5)).alloc (.cells #[.int .i64 1] 3)).alloc (.cells #[.pointer none, .slice none 0 0] 80)) s mark 1 [] := by
  refine ⟨(((Blk.new w _ _).alloc _).alloc _).alloc _, ?_, ?_, ?_, (((((Bel.refl _ _).alloc (Nat.le_refl _) _).alloc (by simp) _).alloc (by simp; omega) _).alloc (by simp; omega) _), by simp⟩
  · have := Blk.new (w.alloc (.cells #[.string s] 9)) 5 #[.int .u8 mark.toNat]
    rw [show (w.alloc (.cells #[.string s] 9)).heap.size = w.heap.size + 1 by simp] at this
    exact (this.alloc _).alloc _
  · have := Blk.new ((w.alloc (.cells #[.string s] 9)).alloc (.cells #[.int .u8 mark.toNat] 5)) 3 #[.int .i64 1]
    rw [show ((w.alloc (.cells #[.string s] 9)).alloc (.cells #[.int .u8 mark.toNat] 5)).heap.size = w.heap.size + 1 + 1 by simp] at this
    exact this.alloc _
  · have := IsB_new (((w.alloc (.cells #[.string s] 9)).alloc (.cells #[.int .u8 mark.toNat] 5)).alloc (.cells #[.int .i64 1] 3)) 80 5
    rw [show (((w.alloc (.cells #[.string s] 9)).alloc (.cells #[.int .u8 mark.toNat] 5)).alloc (.cells #[.int .i64 1] 3)).heap.size = w.heap.size + 1 + 1 + 1 by simp] at this
    exact this
theorem TX.bel {w wr w2 : World} {s : ByteArray} {mark : UInt8} {p : Nat} {t : List UInt8} (h : TX w wr s mark p t) (hb : Bel wr.heap.size wr w2) : TX w w2 s mark p t :=
  ⟨h.1.bel hb h.1.lt, h.2.1.bel hb h.2.1.lt, h.2.2.1.bel hb h.2.2.1.lt, IsB_keep h.2.2.2.1 (fun k _ hk => hb.block k hk), h.2.2.2.2.1.next hb, Nat.lt_of_lt_of_le h.2.2.2.2.2 hb.size⟩
theorem TX.wrote {w wr w2 : World} {s : ByteArray} {mark : UInt8} {p : Nat} {t u : List UInt8} (h : TX w wr s mark p t) (h1 : Lib.IsBuilder 80 5 (w.heap.size + 1 + 1 + 1) (w.heap.size + 1 + 1 + 1) (Lib.byteCells t ++ Lib.strCells (bs u)) w2) (h2 : Below (w.heap.size + 1 + 1 + 1) wr w2) : TX w w2 s mark p (t ++ u) := by
  have hb := Bel.of h2
  refine ⟨h.1.bel hb (by omega), h.2.1.bel hb (by omega), h.2.2.1.bel hb (by omega), ?_, h.2.2.2.2.1.trans (hb.mono (by omega)), Nat.lt_of_lt_of_le h.2.2.2.2.2 hb.size⟩
  rw [Lib.strCells_eq, bs_list] at h1
  rw [show Lib.byteCells (t ++ u) = Lib.byteCells t ++ Lib.byteCells u by simp [Lib.byteCells]]
  exact h1
theorem TX.moved {w wr : World} {s : ByteArray} {mark : UInt8} {p : Nat} {t : List UInt8} (h : TX w wr s mark p t) (q : Nat) : TX w (wr.setCell ⟨w.heap.size + 1 + 1, 0, none⟩ (.int .i64 q)) s mark q t :=
  ⟨h.1.far (by simp <;> omega) _, h.2.1.far (by simp) _, h.2.2.1.set_ 0 _, IsB_keep h.2.2.2.1 (fun k hk _ => Below.heap_setCell wr _ _ k (by simp; omega)), h.2.2.2.2.1.setCell (by simp <;> omega) _, by simpa using h.2.2.2.2.2⟩

end

end Go.Proofs.YtpcbcodmocmilaaGreatDoor
