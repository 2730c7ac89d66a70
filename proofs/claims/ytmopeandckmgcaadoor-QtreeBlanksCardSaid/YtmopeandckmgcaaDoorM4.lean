/- M4: Xf, Xg, Xh, Xi, Xj joined. -/
import Derived.Deep.QuietTactic
import Derived.Deep.LoopGhost
import Derived.Test.YtmopeandckmgcaaDoorM1
import Derived.Test.YtmopeandckmgcaaDoorM3
import Derived.Test.YtmopeandckmgcaaDoorM2
namespace Go.Proofs.YtmopeandckmgcaaDoor
open Go.RowKit
/- ref16: token: strings, names. -/

/-- The bytes from a place on. -/
theorem sub_list (s : ByteArray) (a : Nat) : (s.extract a s.size).data.toList = dr s a := ext_drop s a
theorem sub_0 (s : ByteArray) (a : Nat) (h : a < s.size) : (s.extract a s.size)[0]'(by simp; omega) = s[a] := by
  have h1 : (s.extract a s.size).data.toList = s[a] :: dr s (a + 1) := by rw [sub_list]; exact drop_cons s a h
  have h2 := list_0 (s.extract a s.size) (by simp; omega)
  rw [h1] at h2
  injection h2 with h2 _
  exact h2.symm
theorem sub_dr (s : ByteArray) (a k : Nat) : dr (s.extract a s.size) k = dr s (a + k) := by unfold dr; rw [ext_drop, List.drop_drop]
theorem sub_size (s : ByteArray) (a : Nat) : (s.extract a s.size).size = s.size - a := by simp
theorem rT_str (s : ByteArray) (a : Nat) (h : a < s.size) (hc : s[a] = 34 ∨ s[a] = 39) : tokT (dr s a) = match txtF (s.size - a) s[a] (dr s (a + 1)) with | some (t, n) => .ok (4, t, 0, n + 1) | none => .error 3 := by
  have := tokT_str (s.extract a s.size) (by simp; omega) (by rw [sub_0 s a h]; exact hc)
  rw [sub_list, sub_dr, sub_0 s a h, sub_size] at this; exact this
theorem rT_num (s : ByteArray) (a : Nat) (h : a < s.size) (hc : ¬ (s[a] = 34 ∨ s[a] = 39)) (hd : isDig s[a] = true ∨ s[a] = 45) : tokT (dr s a) = match numT (dr s a) with | .ok (v, n) => .ok (3, [], v, n) | .error e => .error e := by
  have := tokT_num (s.extract a s.size) (by simp; omega) (by rw [sub_0 s a h]; exact hc) (by rw [sub_0 s a h]; exact hd)
  rw [sub_list] at this; exact this
theorem rT_nam (s : ByteArray) (a : Nat) (h : a < s.size) (hc : ¬ (s[a] = 34 ∨ s[a] = 39)) (hd : ¬ (isDig s[a] = true ∨ s[a] = 45)) (hn : 0 < nameL (dr s a)) : tokT (dr s a) = .ok (2, (dr s a).take (nameL (dr s a)), 0, nameL (dr s a)) := by
  have := tokT_nam (s.extract a s.size) (by simp; omega) (by rw [sub_0 s a h]; exact hc) (by rw [sub_0 s a h]; exact hd) (by rw [sub_list]; exact hn)
  rw [sub_list] at this; exact this
theorem rT_sgn (s : ByteArray) (a : Nat) (h : a < s.size) (hc : ¬ (s[a] = 34 ∨ s[a] = 39)) (hd : ¬ (isDig s[a] = true ∨ s[a] = 45)) (hn : nameL (dr s a) = 0) : tokT (dr s a) = match signsL.find? (fun x => (dr s a).take x.length == x) with | some x => .ok (1, x, 0, x.length) | none => .error 3 := by
  have := tokT_sgn (s.extract a s.size) (by simp; omega) (by rw [sub_0 s a h]; exact hc) (by rw [sub_0 s a h]; exact hd) (by rw [sub_list]; exact hn)
  rw [sub_list] at this; exact this
theorem name_num {b : UInt8} {r : List UInt8} (h : isDig b = true ∨ b = 45) : nameL (b :: r) = 0 := by
  have hl : letL (b :: r) = 0 := by
    unfold letL
    have hb : (b.toNat : Int) < 128 ∧ isLet (b.toNat : Int) = false := by
      rcases h with h | h
      · have := (dig_int b).1 h
        refine ⟨by omega, ?_⟩
        unfold isLet
        rw [Bool.eq_false_iff]; simp; omega
      · rw [h]; exact ⟨by decide, by decide⟩
    rw [scal_asc b r hb.1, hb.2]; rfl
  unfold nameL; rw [if_pos hl]
/-- What is returned of a token. -/
def tokWW (k : Int) (s : ByteArray) (n : Int) (a : Nat) : Value := .agg #[.int .i64 k, .string s, .int .i64 n, .int .i64 (a : Nat), .bool false]
def ROneE (l : List UInt8) (a : Nat) (e : Ending) : Prop :=
  match tokT l with
  | .error x => e = .returned (.tuple #[tokWW 0 ⟨#[]⟩ 0 0, .int .i64 0, .int .i64 x])
  | .ok (k, t, v, n) => e = .returned (.tuple #[tokWW k (bs t) v a, .int .i64 ((a + n : Nat) : Int), .int .i64 0])
def ROne (s : ByteArray) (a : Nat) (w : World) (e : Ending) (w' : World) : Prop := ROneE (dr s a) a e ∧ Bel w.heap.size w w'
theorem ROneE.no {l : List UInt8} {a : Nat} {x : Int} (h : tokT l = .error x) : ROneE l a (.returned (.tuple #[.agg #[.int .i64 0, .string ⟨#[]⟩, .int .i64 0, .int .i64 0, .bool false], .int .i64 0, .int .i64 x])) := by
  unfold ROneE; rw [h]; rfl
theorem ROneE.yes {l : List UInt8} {a : Nat} {k v : Int} {t : List UInt8} {n : Nat} (h : tokT l = .ok (k, t, v, n)) {s : ByteArray} {m : Int} (h1 : s = bs t) (h2 : m = ((a + n : Nat) : Int)) : ROneE l a (.returned (.tuple #[.agg #[.int .i64 k, .string s, .int .i64 v, .int .i64 (a : Nat), .bool false], .int .i64 m, .int .i64 0])) := by
  unfold ROneE; rw [h, h1, h2]; rfl
theorem bel_s5 {w w2 : World} {u0 u1 u2 u3 u4 : Value} (h : Bel w.heap.size w w2) :
    Bel w.heap.size w (((((w2.setCell ⟨w.heap.size, 0, none⟩ u0).setCell ⟨w.heap.size, 1, none⟩ u1).setCell ⟨w.heap.size, 2, none⟩ u2).setCell ⟨w.heap.size, 3, none⟩ u3).setCell ⟨w.heap.size, 4, none⟩ u4) :=
  ((((h.setCell (Nat.le_refl _) _).setCell (Nat.le_refl _) _).setCell (Nat.le_refl _) _).setCell (Nat.le_refl _) _).setCell (Nat.le_refl _) _
def TOK0 : Array Value := #[.int .i64 0, .string ⟨#[]⟩, .int .i64 0, .int .i64 0, .bool false]
/-- The result's cell and the empty token. -/
def RK (w wr : World) : Prop := Blk wr w.heap.size 30 TOK0 ∧ Blk wr (w.heap.size + 1) 30 TOK0 ∧ Bel w.heap.size w wr
theorem RK.start (w : World) : RK w ((w.alloc (.cells #[.int .i64 0, .string ⟨#[]⟩, .int .i64 0, .int .i64 0, .bool false] 30)).alloc (.cells #[.int .i64 0, .string ⟨#[]⟩, .int .i64 0, .int .i64 0, .bool false] 30)) :=
  ⟨(Blk.new w _ _).alloc _, Blk.new1 w _ _ _, bel_lit2⟩
theorem RK.bel {w wr w2 : World} (h : RK w wr) (hb : Bel wr.heap.size wr w2) : RK w w2 := ⟨h.1.bel hb h.1.lt, h.2.1.bel hb h.2.1.lt, h.2.2.next hb⟩
theorem RK.cells {w wr : World} (h : RK w wr) : (w.heap.size < wr.heap.size ∧ w.heap.size + 1 < wr.heap.size) ∧ (wr.cell? ⟨w.heap.size + 1, 0, none⟩ = some (.int .i64 0) ∧ wr.cell? ⟨w.heap.size + 1, 1, none⟩ = some (.string ⟨#[]⟩) ∧ wr.cell? ⟨w.heap.size + 1, 2, none⟩ = some (.int .i64 0) ∧ wr.cell? ⟨w.heap.size + 1, 3, none⟩ = some (.int .i64 0) ∧ wr.cell? ⟨w.heap.size + 1, 4, none⟩ = some (.bool false)) ∧
    (wr.frozen? ⟨w.heap.size, 0, none⟩ = false ∧ wr.frozen? ⟨w.heap.size, 1, none⟩ = false ∧ wr.frozen? ⟨w.heap.size, 2, none⟩ = false ∧ wr.frozen? ⟨w.heap.size, 3, none⟩ = false ∧ wr.frozen? ⟨w.heap.size, 4, none⟩ = false) ∧
    (wr.cell? ⟨w.heap.size, 0, none⟩ = some (.int .i64 0) ∧ wr.cell? ⟨w.heap.size, 1, none⟩ = some (.string ⟨#[]⟩) ∧ wr.cell? ⟨w.heap.size, 2, none⟩ = some (.int .i64 0) ∧ wr.cell? ⟨w.heap.size, 3, none⟩ = some (.int .i64 0) ∧ wr.cell? ⟨w.heap.size, 4, none⟩ = some (.bool false)) :=
  ⟨⟨h.1.lt, h.2.1.lt⟩, ⟨h.2.1.cell 0, h.2.1.cell 1, h.2.1.cell 2, h.2.1.cell 3, h.2.1.cell 4⟩, ⟨h.1.frozen 0, h.1.frozen 1, h.1.frozen 2, h.1.frozen 3, h.1.frozen 4⟩, ⟨h.1.cell 0, h.1.cell 1, h.1.cell 2, h.1.cell 3, h.1.cell 4⟩⟩
theorem nine' (s : ByteArray) (a : Nat) (h0 : a < s.size) (hc : ¬ (s[a] = 34 ∨ s[a] = 39)) : ((s[a].toNat : Int) == 34) = false ∧ ((s[a].toNat : Int) == 39) = false :=
  ⟨u8_ne (n := 34) (fun h => hc (.inl h)) (by omega), u8_ne (n := 39) (fun h => hc (.inr h)) (by omega)⟩

set_option maxRecDepth 100000 in
set_option maxHeartbeats 2000000 in
theorem rtok_str (s : ByteArray) (a : Nat) (w : World) (hs : s.size ≤ 1000000) (h0 : a < s.size) (hc : s[a] = 34 ∨ s[a] = 39) :
    Calls Tryd.prog 12 #[.string s, .int .i64 (a : Int)] w (ROne s a w) := by
  have HE := Lib.hid (rT_str s a h0 hc)
  have htx := fun w => rtext_any s a s[a] w hs h0 rfl hc
  have hq : ((s[a].toNat : Int) == 34) = true ∨ (((s[a].toNat : Int) == 34) = false ∧ ((s[a].toNat : Int) == 39) = true) := by
    rcases hc with hc | hc
    · exact .inl (by rw [hc]; rfl)
    · exact .inr ⟨by rw [hc]; rfl, by rw [hc]; rfl⟩
  have hbi := s[a].toNat_lt
  have HR := Lib.hid (RK.start w)
  unfold txQ at htx
  clear hc
  cases ht : txtF (s.size - a) s[a] (dr s (a + 1)) with
  | none =>
    have HE := Lib.hid (show tokT (dr s a) = .error 3 by rw [HE.out, ht])
    rw [ht] at htx
    clear ht
    rcases hq with hq | ⟨hq, hq2⟩
    all_goals
      go_enter Tryd.func12, Tryd.ntmps12
      generalize hQ : bodyPost Tryd.prog Tryd.f12 (ROne s a w) = Q
      have HQ := Lib.hid hQ; clear hQ
      go_wp2_with (go_at_call 19; refine (htx _).mono ?_; rintro e w2 ⟨rfl, hb⟩; have HR2 := Lib.hid (HR.out.bel hb); clear hb; obtain ⟨⟨z1, z2⟩, ⟨c0, c1, c2, c3, c4⟩, ⟨f0, f1, f2, f3, f4⟩, d0, d1, d2, d3, d4⟩ := HR2.out.cells)
      rw [← HQ.out]
      exact bodyPost_ret (v := .tuple #[.agg #[.int .i64 0, .string ⟨#[]⟩, .int .i64 0, .int .i64 0, .bool false], .int .i64 0, .int .i64 3]) (by simp [results, Tryd.results12, go_sem, d0, d1, d2, d3, d4]) rfl ⟨ROneE.no HE.out, bel_s5 HR2.out.2.2⟩
  | some tk =>
    obtain ⟨t, k⟩ := tk
    have HE := Lib.hid (show tokT (dr s a) = .ok (4, t, 0, k + 1) by rw [HE.out, ht])
    rw [ht] at htx
    clear ht
    have hk1 : ¬ (((a + 1 + k : Nat) : Int)) < 0 := by omega
    rcases hq with hq | ⟨hq, hq2⟩
    all_goals
      go_enter Tryd.func12, Tryd.ntmps12
      generalize hQ : bodyPost Tryd.prog Tryd.f12 (ROne s a w) = Q
      have HQ := Lib.hid hQ; clear hQ
      go_wp2_with (go_at_call 19; refine (htx _).mono ?_; rintro e w2 ⟨rfl, hb⟩; have HR2 := Lib.hid (HR.out.bel hb); clear hb; obtain ⟨⟨z1, z2⟩, ⟨c0, c1, c2, c3, c4⟩, ⟨f0, f1, f2, f3, f4⟩, d0, d1, d2, d3, d4⟩ := HR2.out.cells)
      rw [← HQ.out]
      exact bodyPost_ret (v := .tuple #[.agg #[.int .i64 4, .string (bs ([] ++ t)), .int .i64 0, .int .i64 (a : Nat), .bool false], .int .i64 ((a + 1 + k : Nat) : Int), .int .i64 0]) (by simp [results, Tryd.results12, go_sem, d0, d1, d2, d3, d4]) rfl ⟨ROneE.yes HE.out rfl (by omega), bel_s5 HR2.out.2.2⟩

set_option maxRecDepth 100000 in
set_option maxHeartbeats 2000000 in
theorem rtok_nam (s : ByteArray) (a : Nat) (w : World) (hs : s.size ≤ 1000000) (h0 : a < s.size) (hc : ¬ (s[a] = 34 ∨ s[a] = 39)) (hn : 0 < nameL (dr s a)) :
    Calls Tryd.prog 12 #[.string s, .int .i64 (a : Int)] w (ROne s a w) := by
  have hd : ¬ (isDig s[a] = true ∨ s[a] = 45) := by
    intro h
    rw [show dr s a = s[a] :: dr s (a + 1) from drop_cons s a h0, name_num h] at hn; omega
  have HE := Lib.hid (rT_nam s a h0 hc hd hn)
  obtain ⟨hq1, hq2⟩ := nine' s a h0 hc
  have hna := fun w => rname_any s a w hs (by omega)
  have hnl := nameL_le (dr s a)
  rw [dr, List.length_drop, len_toList] at hnl
  obtain ⟨k, hk⟩ : ∃ k, nameL (dr s a) = k := ⟨_, rfl⟩
  change nameL (dr s a) ≤ _ at hnl
  rw [hk] at hnl hn HE hna
  have hbi := s[a].toNat_lt
  have HR := Lib.hid (RK.start w)
  have hgt : ((a + k : Nat) : Int) > (a : Int) := by omega
  clear hc hd hk
  go_enter Tryd.func12, Tryd.ntmps12
  generalize hQ : bodyPost Tryd.prog Tryd.f12 (ROne s a w) = Q
  have HQ := Lib.hid hQ; clear hQ
  go_wp2_with (go_at_call 20; refine (hna _).mono ?_; rintro e w2 ⟨rfl, hb⟩; have HR2 := Lib.hid (HR.out.bel hb); clear hb; obtain ⟨⟨z1, z2⟩, ⟨c0, c1, c2, c3, c4⟩, ⟨f0, f1, f2, f3, f4⟩, d0, d1, d2, d3, d4⟩ := HR2.out.cells)
  rw [← HQ.out]
  exact bodyPost_ret (v := .tuple #[.agg #[.int .i64 2, .string (s.extract a (a + k)), .int .i64 0, .int .i64 (a : Nat), .bool false], .int .i64 ((a + k : Nat) : Int), .int .i64 0]) (by simp [results, Tryd.results12, go_sem, d0, d1, d2, d3, d4]) rfl ⟨ROneE.yes HE.out (bs_of (ext_mid s a k)) rfl, bel_s5 HR2.out.2.2⟩

/- ref16: token: numbers. -/

/-- A number's digits from a place on. -/
theorem rnumT (s : ByteArray) (a f D : Nat) (b : Bool) (hb : hd (dr s a) 45 = b) (hf : f = a + if b then 1 else 0) (hD : digN (dr s f) = D) :
    numT (dr s a) = if D = 0 ∨ (hd (dr s f) 48 = true ∧ (b = true ∨ 1 < D)) then .error 3 else if numV ((dr s f).take D) = 9007199254740992 then .error 6 else .ok (if b then - numV ((dr s f).take D) else numV ((dr s f).take D), (f - a) + D) := by
  subst hf
  have := numT_eq (dr s a) (if b then 1 else 0) D b hb rfl (by rw [dr_dr]; exact hD)
  rw [dr_dr] at this
  rw [this, Nat.add_sub_cancel_left]
theorem numV_step (s : ByteArray) (f i : Nat) (h : f + i < s.size) : numV ((dr s f).take (i + 1)) = capI (numV ((dr s f).take i)) s[f + i] := by
  have := dr_snoc s f (f + i) (by omega) h
  rw [show f + i + 1 - f = i + 1 by omega, show f + i - f = i by omega] at this
  rw [this, numV_snoc]

set_option maxRecDepth 100000 in
set_option maxHeartbeats 4000000 in
theorem rtok_num (s : ByteArray) (a : Nat) (w : World) (hs : s.size ≤ 1000000) (h0 : a < s.size) (hc : ¬ (s[a] = 34 ∨ s[a] = 39)) (hd_ : isDig s[a] = true ∨ s[a] = 45) :
    Calls Tryd.prog 12 #[.string s, .int .i64 (a : Int)] w (ROne s a w) := by
  have hT := rT_num s a h0 hc hd_
  obtain ⟨hq1, hq2⟩ := nine' s a h0 hc
  have e0 : dr s a = s[a] :: dr s (a + 1) := drop_cons s a h0
  have hna := fun w => rname_any s a w hs (by omega)
  rw [e0, name_num hd_] at hna
  have hbi := s[a].toNat_lt
  have HR := Lib.hid (RK.start w)
  obtain ⟨b, hb⟩ : ∃ b, hd (dr s a) 45 = b := ⟨_, rfl⟩
  obtain ⟨f, hf⟩ : ∃ f, f = a + if b then 1 else 0 := ⟨_, rfl⟩
  obtain ⟨D, hD⟩ : ∃ D, digN (dr s f) = D := ⟨_, rfl⟩
  have hN := rnumT s a f D b hb hf hD
  have hbt : ((s[a].toNat : Int) == 45) = b := by rw [← hb]; exact (hd_i' h0 rfl)
  have hfs : f ≤ s.size := by rw [hf]; split <;> omega
  have hfd := digN_bd s f hfs
  rw [hD] at hfd
  have hdf := fun w => rdigits_at s f D w hs hfs (Lib.hid hD)
  have hda : b = false → ∃ d : Nat, 0 < d ∧ ∀ w, Calls Tryd.prog 21 #[.string s, .int .i64 (a : Int)] w fun e w' => e = .returned (.int .i64 (d : Nat)) ∧ w = w' := by
    intro hbf
    refine ⟨digN (dr s a), ?_, fun w => rdigits_any s a w hs (by omega)⟩
    rcases hd_ with h | h
    · rw [e0, digN, if_pos h]; omega
    · rw [h] at hbt; rw [hbf] at hbt; exact absurd hbt (by decide)
  have HN := Lib.hid hN
  have HT := Lib.hid hT
  have HAT := Lib.hid (fun i (hi : i < D) => dig_at s f (f + i) (by omega) (by rw [hD]; omega))
  have HD48 := Lib.hid (fun hp : f < s.size => hd_i' (c := 48) (n := 48) hp rfl)
  simp only [Nat.add_zero] at hna
  have hD0 : b = false → 0 < D := by
    intro hbf
    rw [hbf] at hf
    rw [show f = a from hf] at hD
    rcases hd_ with h | h
    · rw [← hD, e0, digN, if_pos h]; omega
    · rw [h] at hbt; rw [hbf] at hbt; exact absurd hbt (by decide)
  clear hc hd_ hT hN hb hD e0
  cases b with
  | true =>
    obtain rfl : f = a + 1 := hf
    clear hD0
    simp only [Int.natCast_add, Int.natCast_one] at hdf
    by_cases hz : D = 0
    · have HE := Lib.hid (show tokT (dr s a) = .error 3 by rw [HT.out, HN.out, if_pos (.inl hz)])
      have hz' : ((D : Int) == 0) = true := by rw [hz]; rfl
      clear hz
      go_enter Tryd.func12, Tryd.ntmps12
      generalize hQ : bodyPost Tryd.prog Tryd.f12 (ROne s a w) = Q
      have HQ := Lib.hid hQ; clear hQ
      go_wp2_with (first | (go_at_call 20; refine (hna _).mono ?_; rintro e w2 ⟨rfl, hb⟩; have HR2 := Lib.hid (HR.out.bel hb); clear hb; obtain ⟨⟨z1, z2⟩, ⟨c0, c1, c2, c3, c4⟩, ⟨f0, f1, f2, f3, f4⟩, d0, d1, d2, d3, d4⟩ := HR2.out.cells) | (go_at_call 21; refine (hdf _).mono ?_; rintro e w' ⟨rfl, rfl⟩))
      rw [← HQ.out]
      exact bodyPost_ret (v := .tuple #[.agg #[.int .i64 0, .string ⟨#[]⟩, .int .i64 0, .int .i64 0, .bool false], .int .i64 0, .int .i64 3]) (by simp [results, Tryd.results12, go_sem, d0, d1, d2, d3, d4]) rfl ⟨ROneE.no HE.out, bel_s5 HR2.out.2.2⟩
    · have hz' : ((D : Int) == 0) = false := by rw [beq_eq_false_iff_ne]; omega
      have hp : a + 1 < s.size := by omega
      have hbp := s[a + 1].toNat_lt
      have h48 := HD48.out hp
      have HZ := Lib.hid hz
      cases hq : hd (dr s (a + 1)) 48 with
      | true =>
        have HE := Lib.hid (show tokT (dr s a) = .error 3 by rw [HT.out, HN.out, if_pos (.inr ⟨hq, .inl rfl⟩)])
        rw [hq] at h48
        clear hq hz
        go_enter Tryd.func12, Tryd.ntmps12
        generalize hQ : bodyPost Tryd.prog Tryd.f12 (ROne s a w) = Q
        have HQ := Lib.hid hQ; clear hQ
        by_cases h1 : (1 : Int) < (D : Int)
        all_goals
          go_wp2_with (first | (go_at_call 20; refine (hna _).mono ?_; rintro e w2 ⟨rfl, hb⟩; have HR2 := Lib.hid (HR.out.bel hb); clear hb; obtain ⟨⟨z1, z2⟩, ⟨c0, c1, c2, c3, c4⟩, ⟨f0, f1, f2, f3, f4⟩, d0, d1, d2, d3, d4⟩ := HR2.out.cells) | (go_at_call 21; refine (hdf _).mono ?_; rintro e w' ⟨rfl, rfl⟩))
          rw [← HQ.out]
          exact bodyPost_ret (v := .tuple #[.agg #[.int .i64 0, .string ⟨#[]⟩, .int .i64 0, .int .i64 0, .bool false], .int .i64 0, .int .i64 3]) (by simp [results, Tryd.results12, go_sem, d0, d1, d2, d3, d4]) rfl ⟨ROneE.no HE.out, bel_s5 HR2.out.2.2⟩
      | false =>
        rw [hq] at h48
        have HQ48 := Lib.hid hq
        clear hq hz
        go_enter Tryd.func12, Tryd.ntmps12
        generalize hQ : bodyPost Tryd.prog Tryd.f12 (ROne s a w) = Q
        have HQ := Lib.hid hQ; clear hQ
        have HN := Lib.hid (HN.out.trans (if_neg (by simp [HZ.out, HQ48.out])))
        go_wp2_with (first | (go_at_call 20; refine (hna _).mono ?_; rintro e w2 ⟨rfl, hb⟩; have HR2 := Lib.hid (HR.out.bel hb); clear hb; obtain ⟨⟨z1, z2⟩, ⟨c0, c1, c2, c3, c4⟩, ⟨f0, f1, f2, f3, f4⟩, d0, d1, d2, d3, d4⟩ := HR2.out.cells) | (go_at_call 21; refine (hdf _).mono ?_; rintro e w' ⟨rfl, rfl⟩))
        go_loop [14, 15] (fun x y => ∃ (i : Nat) (v : Int), i ≤ D ∧ 0 ≤ v ∧ v ≤ 9007199254740992 ∧ x = .int .i64 v ∧ y = .int .i64 i ∧ Hid (v = numV ((dr s (a + 1)).take i))) (fun _ y => D - (intOf y).toNat)
        case atStart => exact ⟨0, 0, by omega, by omega, by omega, rfl, rfl, Lib.hid rfl⟩
        case round =>
          obtain ⟨i, v, hi, hv0, hv1, rfl, rfl, HV⟩ := hrel
          by_cases hlt : i < D
          · have hp : a + 1 + i < s.size := by omega
            have hbp := s[a + 1 + i].toNat_lt
            obtain ⟨_, hdg⟩ := HAT.out i hlt
            obtain ⟨hg0, hg1⟩ := digB_bd hdg
            have HV2 := Lib.hid (show capI v s[a + 1 + i] = numV ((dr s (a + 1)).take (i + 1)) by rw [numV_step s (a + 1) i hp, ← HV.out])
            have hcb := capI_bd v s[a + 1 + i] hv0 hg0
            have HCI := Lib.hid (show capI v s[a + 1 + i] = min (v * 10 + ((s[a + 1 + i].toNat : Int) - 48)) 9007199254740992 from rfl)
            clear hdg
            go_wp2
            all_goals
              go_round
              case rel => exact ⟨i + 1, capI v s[a + 1 + i], by omega, hcb.1, hcb.2, by rw [HCI.out]; (congr 1; omega), by go_num, HV2⟩
              case measure => simp [intOf] <;> omega
          · have HV := Lib.hid (show v = numV ((dr s (a + 1)).take D) by rw [HV.out, show i = D by omega])
            by_cases h53 : v = 9007199254740992
            · have HE := Lib.hid (show tokT (dr s a) = .error 6 by rw [HT.out, HN.out, ← HV.out, if_pos h53])
              have h53' : (v == 9007199254740992) = true := by rw [h53]; rfl
              clear h53
              go_wp2
              rw [← HQ.out]
              exact bodyPost_ret (v := .tuple #[.agg #[.int .i64 0, .string ⟨#[]⟩, .int .i64 0, .int .i64 0, .bool false], .int .i64 0, .int .i64 6]) (by simp [results, Tryd.results12, go_sem, d0, d1, d2, d3, d4]) rfl ⟨ROneE.no HE.out, bel_s5 HR2.out.2.2⟩
            · have HE := Lib.hid (show tokT (dr s a) = .ok (3, [], (-v), (a + 1 - a) + D) by rw [HT.out, HN.out, ← HV.out, if_neg h53]; rfl)
              have h53' : (v == 9007199254740992) = false := by rw [beq_eq_false_iff_ne]; exact h53
              clear h53
              go_wp2
              rw [← HQ.out]
              exact bodyPost_ret (v := .tuple #[.agg #[.int .i64 3, .string ⟨#[]⟩, .int .i64 (-v), .int .i64 (a : Nat), .bool false], .int .i64 ((a : Int) + 1 + (D : Int)), .int .i64 0]) (by simp [results, Tryd.results12, go_sem, d0, d1, d2, d3, d4]) rfl ⟨ROneE.yes HE.out rfl (by omega), bel_s5 HR2.out.2.2⟩
  | false =>
    obtain rfl : f = a := hf
    have hz := hD0 rfl
    clear hD0
    have hz' : ((D : Int) == 0) = false := by rw [beq_eq_false_iff_ne]; omega
    have hdg0 : (D : Int) > 0 := by omega
    have hp : f < s.size := h0
    have h48 := HD48.out hp
    cases hq : hd (dr s f) 48 with
    | true =>
      by_cases h1 : 1 < D
      · have HE := Lib.hid (show tokT (dr s f) = .error 3 by rw [HT.out, HN.out, if_pos (.inr ⟨hq, .inr h1⟩)])
        have h1' : (1 : Int) < (D : Int) := by omega
        rw [hq] at h48
        clear hq
        go_enter Tryd.func12, Tryd.ntmps12
        generalize hQ : bodyPost Tryd.prog Tryd.f12 (ROne s f w) = Q
        have HQ := Lib.hid hQ; clear hQ
        go_wp2_with (first | (go_at_call 20; refine (hna _).mono ?_; rintro e w2 ⟨rfl, hb⟩; have HR2 := Lib.hid (HR.out.bel hb); clear hb; obtain ⟨⟨z1, z2⟩, ⟨c0, c1, c2, c3, c4⟩, ⟨f0, f1, f2, f3, f4⟩, d0, d1, d2, d3, d4⟩ := HR2.out.cells) | (go_at_call 21; refine (hdf _).mono ?_; rintro e w' ⟨rfl, rfl⟩))
        rw [← HQ.out]
        exact bodyPost_ret (v := .tuple #[.agg #[.int .i64 0, .string ⟨#[]⟩, .int .i64 0, .int .i64 0, .bool false], .int .i64 0, .int .i64 3]) (by simp [results, Tryd.results12, go_sem, d0, d1, d2, d3, d4]) rfl ⟨ROneE.no HE.out, bel_s5 HR2.out.2.2⟩
      · have HG := Lib.hid (show ¬ (D = 0 ∨ hd (dr s f) 48 = true ∧ (false = true ∨ 1 < D)) by simp; omega)
        have h1' : ¬ (1 : Int) < (D : Int) := by omega
        rw [hq] at h48
        clear hq
        go_enter Tryd.func12, Tryd.ntmps12
        generalize hQ : bodyPost Tryd.prog Tryd.f12 (ROne s f w) = Q
        have HQ := Lib.hid hQ; clear hQ
        have HN := Lib.hid (HN.out.trans (if_neg (by exact HG.out)))
        go_wp2_with (first | (go_at_call 20; refine (hna _).mono ?_; rintro e w2 ⟨rfl, hb⟩; have HR2 := Lib.hid (HR.out.bel hb); clear hb; obtain ⟨⟨z1, z2⟩, ⟨c0, c1, c2, c3, c4⟩, ⟨f0, f1, f2, f3, f4⟩, d0, d1, d2, d3, d4⟩ := HR2.out.cells) | (go_at_call 21; refine (hdf _).mono ?_; rintro e w' ⟨rfl, rfl⟩))
        go_loop [14, 15] (fun x y => ∃ (i : Nat) (v : Int), i ≤ D ∧ 0 ≤ v ∧ v ≤ 9007199254740992 ∧ x = .int .i64 v ∧ y = .int .i64 i ∧ Hid (v = numV ((dr s (f)).take i))) (fun _ y => D - (intOf y).toNat)
        case atStart => exact ⟨0, 0, by omega, by omega, by omega, rfl, rfl, Lib.hid rfl⟩
        case round =>
          obtain ⟨i, v, hi, hv0, hv1, rfl, rfl, HV⟩ := hrel
          by_cases hlt : i < D
          · have hp : f + i < s.size := by omega
            have hbp := s[f + i].toNat_lt
            obtain ⟨_, hdg⟩ := HAT.out i hlt
            obtain ⟨hg0, hg1⟩ := digB_bd hdg
            have HV2 := Lib.hid (show capI v s[f + i] = numV ((dr s (f)).take (i + 1)) by rw [numV_step s (f) i hp, ← HV.out])
            have hcb := capI_bd v s[f + i] hv0 hg0
            have HCI := Lib.hid (show capI v s[f + i] = min (v * 10 + ((s[f + i].toNat : Int) - 48)) 9007199254740992 from rfl)
            clear hdg
            go_wp2
            all_goals
              go_round
              case rel => exact ⟨i + 1, capI v s[f + i], by omega, hcb.1, hcb.2, by rw [HCI.out]; (congr 1; omega), by go_num, HV2⟩
              case measure => simp [intOf] <;> omega
          · have HV := Lib.hid (show v = numV ((dr s (f)).take D) by rw [HV.out, show i = D by omega])
            by_cases h53 : v = 9007199254740992
            · have HE := Lib.hid (show tokT (dr s f) = .error 6 by rw [HT.out, HN.out, ← HV.out, if_pos h53])
              have h53' : (v == 9007199254740992) = true := by rw [h53]; rfl
              clear h53
              go_wp2
              rw [← HQ.out]
              exact bodyPost_ret (v := .tuple #[.agg #[.int .i64 0, .string ⟨#[]⟩, .int .i64 0, .int .i64 0, .bool false], .int .i64 0, .int .i64 6]) (by simp [results, Tryd.results12, go_sem, d0, d1, d2, d3, d4]) rfl ⟨ROneE.no HE.out, bel_s5 HR2.out.2.2⟩
            · have HE := Lib.hid (show tokT (dr s f) = .ok (3, [], v, (f - f) + D) by rw [HT.out, HN.out, ← HV.out, if_neg h53]; rfl)
              have h53' : (v == 9007199254740992) = false := by rw [beq_eq_false_iff_ne]; exact h53
              clear h53
              go_wp2
              rw [← HQ.out]
              exact bodyPost_ret (v := .tuple #[.agg #[.int .i64 3, .string ⟨#[]⟩, .int .i64 v, .int .i64 (f : Nat), .bool false], .int .i64 ((f : Int) + (D : Int)), .int .i64 0]) (by simp [results, Tryd.results12, go_sem, d0, d1, d2, d3, d4]) rfl ⟨ROneE.yes HE.out rfl (by omega), bel_s5 HR2.out.2.2⟩
    | false =>
      have HG := Lib.hid (show ¬ (D = 0 ∨ hd (dr s f) 48 = true ∧ (false = true ∨ 1 < D)) by rw [hq]; simp; omega)
      rw [hq] at h48
      clear hq
      go_enter Tryd.func12, Tryd.ntmps12
      generalize hQ : bodyPost Tryd.prog Tryd.f12 (ROne s f w) = Q
      have HQ := Lib.hid hQ; clear hQ
      have HN := Lib.hid (HN.out.trans (if_neg (by exact HG.out)))
      go_wp2_with (first | (go_at_call 20; refine (hna _).mono ?_; rintro e w2 ⟨rfl, hb⟩; have HR2 := Lib.hid (HR.out.bel hb); clear hb; obtain ⟨⟨z1, z2⟩, ⟨c0, c1, c2, c3, c4⟩, ⟨f0, f1, f2, f3, f4⟩, d0, d1, d2, d3, d4⟩ := HR2.out.cells) | (go_at_call 21; refine (hdf _).mono ?_; rintro e w' ⟨rfl, rfl⟩))
      go_loop [14, 15] (fun x y => ∃ (i : Nat) (v : Int), i ≤ D ∧ 0 ≤ v ∧ v ≤ 9007199254740992 ∧ x = .int .i64 v ∧ y = .int .i64 i ∧ Hid (v = numV ((dr s (f)).take i))) (fun _ y => D - (intOf y).toNat)
      case atStart => exact ⟨0, 0, by omega, by omega, by omega, rfl, rfl, Lib.hid rfl⟩
      case round =>
        obtain ⟨i, v, hi, hv0, hv1, rfl, rfl, HV⟩ := hrel
        by_cases hlt : i < D
        · have hp : f + i < s.size := by omega
          have hbp := s[f + i].toNat_lt
          obtain ⟨_, hdg⟩ := HAT.out i hlt
          obtain ⟨hg0, hg1⟩ := digB_bd hdg
          have HV2 := Lib.hid (show capI v s[f + i] = numV ((dr s (f)).take (i + 1)) by rw [numV_step s (f) i hp, ← HV.out])
          have hcb := capI_bd v s[f + i] hv0 hg0
          have HCI := Lib.hid (show capI v s[f + i] = min (v * 10 + ((s[f + i].toNat : Int) - 48)) 9007199254740992 from rfl)
          clear hdg
          go_wp2
          all_goals
            go_round
            case rel => exact ⟨i + 1, capI v s[f + i], by omega, hcb.1, hcb.2, by rw [HCI.out]; (congr 1; omega), by go_num, HV2⟩
            case measure => simp [intOf] <;> omega
        · have HV := Lib.hid (show v = numV ((dr s (f)).take D) by rw [HV.out, show i = D by omega])
          by_cases h53 : v = 9007199254740992
          · have HE := Lib.hid (show tokT (dr s f) = .error 6 by rw [HT.out, HN.out, ← HV.out, if_pos h53])
            have h53' : (v == 9007199254740992) = true := by rw [h53]; rfl
            clear h53
            go_wp2
            rw [← HQ.out]
            exact bodyPost_ret (v := .tuple #[.agg #[.int .i64 0, .string ⟨#[]⟩, .int .i64 0, .int .i64 0, .bool false], .int .i64 0, .int .i64 6]) (by simp [results, Tryd.results12, go_sem, d0, d1, d2, d3, d4]) rfl ⟨ROneE.no HE.out, bel_s5 HR2.out.2.2⟩
          · have HE := Lib.hid (show tokT (dr s f) = .ok (3, [], v, (f - f) + D) by rw [HT.out, HN.out, ← HV.out, if_neg h53]; rfl)
            have h53' : (v == 9007199254740992) = false := by rw [beq_eq_false_iff_ne]; exact h53
            clear h53
            go_wp2
            rw [← HQ.out]
            exact bodyPost_ret (v := .tuple #[.agg #[.int .i64 3, .string ⟨#[]⟩, .int .i64 v, .int .i64 (f : Nat), .bool false], .int .i64 ((f : Int) + (D : Int)), .int .i64 0]) (by simp [results, Tryd.results12, go_sem, d0, d1, d2, d3, d4]) rfl ⟨ROneE.yes HE.out rfl (by omega), bel_s5 HR2.out.2.2⟩

/- ref16: token: signs. -/

theorem nin2' (s : ByteArray) (a : Nat) (h0 : a < s.size) (hd : ¬ (isDig s[a] = true ∨ s[a] = 45)) : digN (dr s a) = 0 ∧ ((s[a].toNat : Int) == 45) = false := by
  refine ⟨?_, u8_ne (n := 45) (fun h => hd (.inr h)) (by omega)⟩
  rw [show dr s a = s[a] :: dr s (a + 1) from drop_cons s a h0, digN, if_neg (fun h => hd (.inl h))]
/-- The list of signs in memory. -/
def SGm (w wr : World) (g : Nat) : Prop := RK w wr ∧ Blk wr g 9 sgA ∧ w.heap.size + 1 < g
theorem SGm.bel {w wr w2 : World} {g : Nat} (h : SGm w wr g) (hb : Bel wr.heap.size wr w2) : SGm w w2 g := ⟨h.1.bel hb, h.2.1.bel hb h.2.1.lt, h.2.2⟩

set_option maxRecDepth 100000 in
set_option maxHeartbeats 4000000 in
theorem rtok_sgn (s : ByteArray) (a : Nat) (w : World) (hs : s.size ≤ 1000000) (h0 : a < s.size) (hc : ¬ (s[a] = 34 ∨ s[a] = 39)) (hd_ : ¬ (isDig s[a] = true ∨ s[a] = 45)) (hn : nameL (dr s a) = 0) :
    Calls Tryd.prog 12 #[.string s, .int .i64 (a : Int)] w (ROne s a w) := by
  have HE := Lib.hid (rT_sgn s a h0 hc hd_ hn)
  obtain ⟨hq1, hq2⟩ := nine' s a h0 hc
  obtain ⟨hd0, hq4⟩ := nin2' s a h0 hd_
  have hna := fun w => rname_any s a w hs (by omega)
  rw [hn] at hna
  simp only [Nat.add_zero] at hna
  have hda := fun w => rdigits_at s a 0 w hs (by omega) (Lib.hid hd0)
  have hbi := s[a].toNat_lt
  have HR := Lib.hid (RK.start w)
  clear hc hd_ hn hd0
  go_enter Tryd.func12, Tryd.ntmps12
  generalize hQ : bodyPost Tryd.prog Tryd.f12 (ROne s a w) = Q
  have HQ := Lib.hid hQ; clear hQ
  go_upto_region 28 with (first | (go_at_call 20; refine (hna _).mono ?_; rintro e w2 ⟨rfl, hb⟩; have HR2 := Lib.hid (HR.out.bel hb); clear hb) | (go_at_call 21; refine (hda _).mono ?_; rintro e w' ⟨rfl, rfl⟩))
  have HS0 := Lib.hid (show SGm w (w2.alloc (.cells sgA 9)) w2.heap.size from ⟨HR2.out.bel bel_lit, Blk.new _ _ _, HR2.out.2.1.lt⟩)
  go_upto_region 29 with fail
  rw [show #[Value.string ⟨#[46, 46]⟩, Value.string ⟨#[38, 38]⟩, Value.string ⟨#[124, 124]⟩, Value.string ⟨#[61, 61]⟩, Value.string ⟨#[33, 61]⟩, Value.string ⟨#[60, 61]⟩, Value.string ⟨#[62, 61]⟩, Value.string ⟨#[36]⟩, Value.string ⟨#[64]⟩, Value.string ⟨#[46]⟩, Value.string ⟨#[91]⟩, Value.string ⟨#[93]⟩, Value.string ⟨#[40]⟩, Value.string ⟨#[41]⟩, Value.string ⟨#[42]⟩, Value.string ⟨#[44]⟩, Value.string ⟨#[58]⟩, Value.string ⟨#[63]⟩, Value.string ⟨#[33]⟩, Value.string ⟨#[60]⟩, Value.string ⟨#[62]⟩] = sgA from rfl]
  obtain ⟨g, hg⟩ : ∃ g, w2.heap.size = g := ⟨_, rfl⟩
  rw [hg] at HS0 ⊢
  generalize w2.alloc (.cells sgA 9) = w3 at HS0 ⊢
  clear hg HR2
  go_wp2
  go_loopg [17] 21 (fun k v wr => ∃ i : Nat, k = 21 - i ∧ i ≤ 21 ∧ v = .int .i64 i ∧ Hid (∀ j (hj : j < 21), j < i → preB (dr s a) (signsL[j]'(by rw [sg_len]; exact hj)) = false) ∧ Hid (SGm w wr g))
  case atStart => exact ⟨0, by omega, by omega, rfl, Lib.hid (fun j _ h => absurd h (by omega)), HS0⟩
  case round =>
    clear HS0
    obtain ⟨i, hgk, hi, rfl, HI, HS⟩ := hrel
    have HGK := Lib.hid hgk; clear hgk
    obtain ⟨⟨z1, z2⟩, ⟨c0, c1, c2, c3, c4⟩, ⟨f0, f1, f2, f3, f4⟩, d0, d1, d2, d3, d4⟩ := HS.out.1.cells
    have hgl := HS.out.2.1.lt
    by_cases hlt : i < 21
    · obtain ⟨x, hx⟩ : ∃ x, x = signsL[i]'(by rw [sg_len]; exact hlt) := ⟨_, rfl⟩
      have ci : wr.cell? ⟨g, i, none⟩ = some (.string (bs x)) := by
        rw [HS.out.2.1.cell i, sgA_get i hlt, hx]
      have hxs : (bs x).size ≤ 2 ∧ 0 < (bs x).size := by
        rw [← len_toList, bs_list, hx]
        exact ⟨(show ∀ y ∈ signsL, y.length ≤ 2 by decide) _ (List.getElem_mem _), (show ∀ y ∈ signsL, 0 < y.length by decide) _ (List.getElem_mem _)⟩
      have hxl : (bs x).size = x.length := by rw [← len_toList, bs_list]
      obtain ⟨m, hm⟩ : ∃ m, (bs x).size = m := ⟨_, rfl⟩
      rw [hm] at hxs hxl
      obtain ⟨hxs1, hxs2⟩ := hxs
      have HXL := Lib.hid hxl
      have HX := Lib.hid hx
      clear hxl hx
      have hi21 : (i : Int) < 21 := by omega
      by_cases hlen : a + m ≤ s.size
      · have g1 : (m : Int) ≤ (s.size : Int) - (a : Int) := by omega
        have q1 : IntKind.i64.wrap ((a : Int) + (m : Int)) = (a : Int) + (m : Int) := IntWalk.i64_in _ (by omega)
        have q2 : 0 ≤ (a : Int) + (m : Int) := by omega
        have q3 : ((a : Int) + (m : Int)).toNat = a + m := by omega
        have q4 : (a : Int) + (m : Int) ≤ (s.size : Int) := by omega
        have q5 : IntKind.i64.wrap ((s.size : Int) - (a : Int)) = (s.size : Int) - (a : Int) := IntWalk.i64_in _ (by omega)
        have hd1 : decide ((m : Int) ≤ (s.size : Int) - (a : Int)) = true := by simpa using g1
        cases hp : preB (dr s a) x with
        | true =>
          have HE := Lib.hid (show tokT (dr s a) = .ok (1, x, 0, x.length) by
            rw [HE.out, find_from (dr s a) i hlt (by rw [← HX.out]; exact hp) HI.out, ← HX.out])
          have hst : ((s.extract a (a + m)).toList == (bs x).toList) = true := str_t (bs_of (by rw [ext_mid, HXL.out]; unfold preB at hp; simpa using hp))
          clear hp
          go_wp2
          go_quiet (fail)
          go_wp2
          rw [← HQ.out]
          exact bodyPost_ret (v := .tuple #[.agg #[.int .i64 1, .string (bs x), .int .i64 0, .int .i64 (a : Nat), .bool false], .int .i64 ((a : Int) + (m : Int)), .int .i64 0]) (by simp [results, Tryd.results12, go_sem, d0, d1, d2, d3, d4]) rfl ⟨ROneE.yes HE.out rfl (by rw [← HXL.out]; omega), bel_s5 (HS.out.1.2.2.drewN _)⟩
        | false =>
          have HI := Lib.hid (show ∀ j (hj : j < 21), j < i + 1 → preB (dr s a) (signsL[j]'(by rw [sg_len]; exact hj)) = false by
            intro j hj hji
            by_cases e : j = i
            · subst e; rw [← HX.out]; exact hp
            · exact HI.out j hj (by omega))
          have hst : ((s.extract a (a + m)).toList == (bs x).toList) = false := str_f (by
            intro e
            have e2 := congrArg (fun b : ByteArray => b.data.toList) e
            simp only [bs_list] at e2
            rw [ext_mid, HXL.out] at e2
            unfold preB at hp
            rw [e2] at hp; simp at hp)
          clear hp
          go_wp2
          go_quiet (fail)
          go_wp2
          go_roundg (21 - (i + 1))
          case measure => have := HGK.out; simp; omega
          case rel => exact ⟨i + 1, rfl, by omega, by go_num, HI, Lib.hid (HS.out.bel ((Bel.refl _ _).drewN _))⟩
      · have g1 : ¬ (m : Int) ≤ (s.size : Int) - (a : Int) := by omega
        have q5 : IntKind.i64.wrap ((s.size : Int) - (a : Int)) = (s.size : Int) - (a : Int) := IntWalk.i64_in _ (by omega)
        have hd1 : decide ((m : Int) ≤ (s.size : Int) - (a : Int)) = false := by simpa using g1
        have HI := Lib.hid (show ∀ j (hj : j < 21), j < i + 1 → preB (dr s a) (signsL[j]'(by rw [sg_len]; exact hj)) = false by
          intro j hj hji
          by_cases e : j = i
          · subst e; rw [← HX.out]
            unfold preB
            rw [beq_eq_false_iff_ne]
            intro e2
            have e3 := congrArg List.length e2
            rw [List.length_take, dr, List.length_drop, len_toList] at e3
            have := HXL.out
            omega
          · exact HI.out j hj (by omega))
        go_wp2
        go_quiet (fail)
        go_wp2
        go_roundg (21 - (i + 1))
        case measure => have := HGK.out; simp; omega
        case rel => exact ⟨i + 1, rfl, by omega, by go_num, HI, Lib.hid (HS.out.bel ((Bel.refl _ _).drewN _))⟩
    · have HE := Lib.hid (show tokT (dr s a) = .error 3 by rw [HE.out, find_no (dr s a) (fun j hj => HI.out j hj (by omega))])
      go_wp2
      rw [← HQ.out]
      exact bodyPost_ret (v := .tuple #[.agg #[.int .i64 0, .string ⟨#[]⟩, .int .i64 0, .int .i64 0, .bool false], .int .i64 0, .int .i64 3]) (by simp [results, Tryd.results12, go_sem, d0, d1, d2, d3, d4]) rfl ⟨ROneE.no HE.out, bel_s5 HS.out.1.2.2⟩

/- ref16: token, blank, Lex. -/

theorem rtok_any (s : ByteArray) (a : Nat) (w : World) (hs : s.size ≤ 1000000) (h0 : a < s.size) :
    Calls Tryd.prog 12 #[.string s, .int .i64 (a : Int)] w (ROne s a w) := by
  by_cases hc : s[a] = 34 ∨ s[a] = 39
  · exact rtok_str s a w hs h0 hc
  · by_cases hd_ : isDig s[a] = true ∨ s[a] = 45
    · exact rtok_num s a w hs h0 hc hd_
    · rcases Nat.eq_zero_or_pos (nameL (dr s a)) with hn | hn
      · exact rtok_sgn s a w hs h0 hc hd_ hn
      · exact rtok_nam s a w hs h0 hc hn
set_option maxHeartbeats 400000 in
theorem rblank_any (c : UInt8) (w : World) :
    Calls Tryd.prog 11 #[.int .u8 (c.toNat : Int)] w fun e w' => e = .returned (.bool (isBk c)) ∧ w = w' := by
  have hc := c.toNat_lt
  have key : ∀ n : UInt8, (c == n) = ((c.toNat : Int) == (n.toNat : Int)) := fun n => by rw [Bool.eq_iff_iff, beq_iff_eq, beq_iff_eq, ← UInt8.toNat_inj]; omega
  have HE := Lib.hid (show isBk c = ((c.toNat : Int) == 32 || (c.toNat : Int) == 9 || (c.toNat : Int) == 10 || (c.toNat : Int) == 13) by unfold isBk; rw [key, key, key, key]; rfl)
  obtain ⟨b0, h0⟩ : ∃ b0, ((c.toNat : Int) == 32) = b0 := ⟨_, rfl⟩
  obtain ⟨b1, h1⟩ : ∃ b1, ((c.toNat : Int) == 9) = b1 := ⟨_, rfl⟩
  obtain ⟨b2, h2⟩ : ∃ b2, ((c.toNat : Int) == 10) = b2 := ⟨_, rfl⟩
  obtain ⟨b3, h3⟩ : ∃ b3, ((c.toNat : Int) == 13) = b3 := ⟨_, rfl⟩
  rw [h0, h1, h2, h3] at HE
  clear key
  cases b0 <;> cases b1 <;> cases b2 <;> cases b3
  all_goals
    go_enter Tryd.func11, Tryd.ntmps11
    go_wp2
    go_ret
    exact ⟨ret_bool (by rw [HE.out]; rfl), rfl⟩
theorem rblank_at (c : UInt8) (b : Bool) (w : World) (h : Hid (isBk c = b)) :
    Calls Tryd.prog 11 #[.int .u8 (c.toNat : Int)] w fun e w' => e = .returned (.bool b) ∧ w = w' := by
  rw [← h.out]; exact rblank_any c w

set_option maxRecDepth 100000 in
set_option maxHeartbeats 4000000 in
theorem rlex_long (s : ByteArray) (w : World) (hs : s.size ≤ 1000000) (hlong : 4096 < s.size) :
    Calls Tryd.prog 8 #[.string s] w (LexP s.data.toList w) := by
  have HE := Lib.hid (lexL_long (l := s.data.toList) (by rw [len_toList]; exact hlong))
  go_enter Tryd.func8, Tryd.ntmps8
  generalize hQ : bodyPost Tryd.prog Tryd.f8 (LexP s.data.toList w) = Q
  have HQ := Lib.hid hQ; clear hQ
  go_wp2
  rw [← HQ.out]
  exact bodyPost_ret (v := .tuple #[.slice none 0 0, .agg #[.int .i64 4, .int .i64 0]]) (by simp [results, Tryd.results8, go_sem]) rfl (LexP.no HE.out bel_lit)

/- ref16: Lex, walked. -/

theorem bk_at {s : ByteArray} {a q : Nat} (h1 : a ≤ q) (h2 : q < a + bkN (dr s a)) : ∃ h : q < s.size, isBk s[q] = true := by
  have hl := bkN_le (dr s a)
  rw [dr, List.length_drop, len_toList] at hl
  change bkN (dr s a) ≤ _ at hl
  have hq : q < s.size := by omega
  refine ⟨hq, ?_⟩
  have := bkN_take (dr s a) s[q] (by
    rw [List.mem_take_iff_getElem]
    refine ⟨q - a, ?_, ?_⟩
    · exact Nat.lt_min.2 ⟨by omega, by unfold dr; rw [List.length_drop, len_toList]; omega⟩
    · show (s.data.toList.drop a)[q - a]'(by rw [List.length_drop, len_toList]; omega) = s[q]
      rw [List.getElem_drop]
      have : a + (q - a) = q := by omega
      simp only [this]; rfl)
  exact this
theorem bk_end {s : ByteArray} {a : Nat} (h : a + bkN (dr s a) < s.size) : isBk s[a + bkN (dr s a)] = false := by
  have h0 := bkN_zero (u := dr s a) (by rw [dr_dr]; exact dr_ne h)
  rw [dr_dr, show dr s (a + bkN (dr s a)) = s[a + bkN (dr s a)] :: dr s (a + bkN (dr s a) + 1) from drop_cons s _ h] at h0
  cases hb : isBk s[a + bkN (dr s a)] with
  | false => rfl
  | true => unfold bkN at h0; rw [if_pos hb] at h0; omega

set_option maxRecDepth 100000 in
set_option maxHeartbeats 4000000 in
theorem rlex_any (s : ByteArray) (w : World) (hs : s.size ≤ 1000000) :
    Calls Tryd.prog 8 #[.string s] w (LexP s.data.toList w) := by
  by_cases hlong : 4096 < s.size
  · exact rlex_long s w hs hlong
  have HL := Lib.hid (show ¬ 4096 < s.data.toList.length by rw [len_toList]; exact hlong)
  have HX0 := Lib.hid (LX.start w)
  obtain ⟨i0, hi, hz0, hz1, hz2'⟩ := info_parts info_tok
  go_enter Tryd.func8, Tryd.ntmps8
  generalize hQ : bodyPost Tryd.prog Tryd.f8 (LexP s.data.toList w) = Q
  have HQ := Lib.hid hQ; clear hQ
  go_wp2
  go_loopg [4, 5] s.size (fun k v x wr => ∃ (a f : Nat) (toks : List TokD), k = s.size - a ∧ a ≤ s.size ∧ s.size < a + f ∧ toks.length ≤ a ∧ x = .int .i64 a ∧ Hid (lexF (s.data.toList.length + 1) 0 s.data.toList = pref toks (lexF f a (dr s a))) ∧ Hid (LX w wr v toks))
  case atStart => exact ⟨0, s.size + 1, [], by omega, by omega, by omega, by simp, rfl, Lib.hid (by rw [pref_nil, len_toList]; rfl), HX0⟩
  case round =>
    clear HX0
    obtain ⟨a, f, toks, hgk, ha, hf, htl, rfl, HF, HX⟩ := hrel
    have HGK := Lib.hid hgk; clear hgk
    by_cases hlt : a < s.size
    · obtain ⟨g, hg⟩ : ∃ g, bkN (dr s a) = g := ⟨_, rfl⟩
      have hgl : a + g ≤ s.size := by have := bkN_le (dr s a); rw [hg, dr, List.length_drop, len_toList] at this; omega
      have HBA := Lib.hid (fun q (h1 : a ≤ q) (h2 : q < a + g) => bk_at (s := s) h1 (by rw [hg]; exact h2))
      have HBE := Lib.hid (show ∀ h : a + g < s.size, isBk s[a + g] = false by subst hg; exact fun h => bk_end h)
      obtain ⟨p, hp⟩ : ∃ p, a + g = p := ⟨_, rfl⟩
      have HP := Lib.hid hp
      have HG := Lib.hid hg
      rw [hp] at hgl HBA HBE
      have hap : a ≤ p := by omega
      obtain ⟨f', rfl⟩ : ∃ f', f = f' + 1 := ⟨f - 1, by omega⟩
      clear hg
      go_wp2
      go_loop [5] (fun x => ∃ q : Nat, a ≤ q ∧ q ≤ p ∧ x = .int .i64 q) (fun x => p - (intOf x).toNat)
      case atStart => exact ⟨a, by omega, hap, rfl⟩
      case round =>
        obtain ⟨q, hq1, hq2, rfl⟩ := hrel
        by_cases hqp : q < p
        · obtain ⟨hqs, hqb⟩ := HBA.out q hq1 hqp
          have hqi := s[q].toNat_lt
          have HQB := Lib.hid hqb
          clear hqb
          go_wp2_with (go_at_call 11; refine (rblank_at _ _ _ HQB).mono ?_; rintro e w' ⟨rfl, rfl⟩)
          go_round
          case rel => exact ⟨q + 1, by omega, by omega, by go_num⟩
          case measure => simp [intOf] <;> omega
        · obtain rfl : q = p := by omega
          have hqe : q < s.size → ∃ h : q < s.size, isBk s[q] = false := fun h => ⟨h, HBE.out h⟩
          have HQE := Lib.hid hqe
          clear hqe hqp hq1 hq2
          by_cases hbad : 0 < g ∧ (a = 0 ∨ s.size ≤ a + g)
          · have HE := Lib.hid (lexL_err HL.out (HF.out.trans (lex_gap (f := f') (toks := toks) hlt (by rw [HG.out]; exact hbad.1) (by rw [HG.out]; exact hbad.2))))
            obtain ⟨hg0, hb2⟩ := hbad
            have haq : (a : Int) < (q : Int) := by omega
            obtain ⟨x1, ⟨x2, x3⟩, x4, x5⟩ := HX.out.1.two
            by_cases ha0 : a = 0
            · have ha1 : ((a : Int) == 0) = true := by simp [ha0]
              clear ha0 hb2 hp
              by_cases hqs : q < s.size
              · obtain ⟨_, hqb⟩ := HQE.out hqs
                have hqi := s[q].toNat_lt
                have HQB := Lib.hid hqb
                clear hqb
                go_wp2_with (go_at_call 11; refine (rblank_at _ _ _ HQB).mono ?_; rintro e w' ⟨rfl, rfl⟩)
                rw [← HQ.out]
                exact bodyPost_ret (v := .tuple #[.slice none 0 0, .agg #[.int .i64 3, .int .i64 a]]) (by simp [results, Tryd.results8, go_sem, x2, x3]) rfl (LexP.no HE.out (HX.out.stored _ _))
              · go_wp2
                rw [← HQ.out]
                exact bodyPost_ret (v := .tuple #[.slice none 0 0, .agg #[.int .i64 3, .int .i64 a]]) (by simp [results, Tryd.results8, go_sem, x2, x3]) rfl (LexP.no HE.out (HX.out.stored _ _))
            · have ha1 : ((a : Int) == 0) = false := by simp [ha0]
              have hqs : ¬ q < s.size := by omega
              have hqs' : ((q : Int) == (s.size : Int)) = true := by rw [beq_iff_eq]; omega
              clear ha0 hb2 hp
              go_wp2
              rw [← HQ.out]
              exact bodyPost_ret (v := .tuple #[.slice none 0 0, .agg #[.int .i64 3, .int .i64 a]]) (by simp [results, Tryd.results8, go_sem, x2, x3]) rfl (LexP.no HE.out (HX.out.stored _ _))
          · have hqs : q < s.size := by omega
            obtain ⟨_, hqb⟩ := HQE.out hqs
            have hqi := s[q].toNat_lt
            have HQB := Lib.hid hqb
            have hqs' : ((q : Int) == (s.size : Int)) = false := by rw [beq_eq_false_iff_ne]; omega
            have hon := fun w => rtok_any s q w hs hqs
            unfold ROne ROneE at hon
            have HBAD := Lib.hid hbad
            have hgg : (¬ (a : Int) < (q : Int) ∧ decide (0 < g) = false) ∨ ((a : Int) < (q : Int) ∧ decide (0 < g) = true ∧ ((a : Int) == 0) = false) := by
              rcases Nat.eq_zero_or_pos g with h | h
              · exact .inl ⟨by omega, by simp [h]⟩
              · exact .inr ⟨by omega, by simpa using h, by rw [beq_eq_false_iff_ne]; omega⟩
            clear hbad hqb
            cases htk : tokT (dr s q) with
            | error e =>
              have HE := Lib.hid (show lexL s.data.toList = .error (e, q) by
                have := lexL_err HL.out (HF.out.trans (lex_err (f := f') (toks := toks) hlt HG.out HBAD.out (by rw [HP.out]; exact htk)))
                rw [HP.out] at this; exact this)
              rw [htk] at hon
              obtain ⟨he0, he1⟩ := tokT_err htk
              clear htk hp
              rcases hgg with ⟨hg1, -⟩ | ⟨hg1, -, hg2⟩
              all_goals
                go_wp2_with (first | (go_at_call 11; refine (rblank_at _ _ _ HQB).mono ?_; rintro e w' ⟨rfl, rfl⟩) | (go_at_call 12; refine (hon _).mono ?_; rintro e w2 ⟨rfl, hb⟩; have HX2 := Lib.hid (HX.out.bel hb); obtain ⟨x1, ⟨x2, x3⟩, x4, x5⟩ := HX2.out.1.two; clear hb; unfold tokWW))
                rw [← HQ.out]
                exact bodyPost_ret (v := .tuple #[.slice none 0 0, .agg #[.int .i64 e, .int .i64 (q : Nat)]]) (by simp [results, Tryd.results8, go_sem, x1, x2, x3]) rfl (LexP.no HE.out ((HX2.out.stored _ _).alloc (by simp; omega) _))
            | ok kt =>
              obtain ⟨k, t, v, n⟩ := kt
              have HF := Lib.hid (HF.out.trans (lex_go (f := f') (toks := toks) hlt HG.out HBAD.out (by rw [HP.out]; exact htk)))
              rw [HP.out] at HF
              obtain ⟨hn0, hn1, _⟩ := tokT_ok _ _ _ _ _ htk
              rw [dr, List.length_drop, len_toList] at hn1
              rw [htk] at hon
              have hqn : q + n ≤ s.size := by omega
              clear htk hn1 hp
              rcases hgg with ⟨hg1, hgd⟩ | ⟨hg1, hgd, hg2⟩
              · have HGD := Lib.hid hgd
                clear hgd
                go_wp2_with (first
                  | (go_at_call 11; refine (rblank_at _ _ _ HQB).mono ?_; rintro e w' ⟨rfl, rfl⟩)
                  | (go_at_call 12; refine (hon _).mono ?_; rintro e w2 ⟨rfl, hb⟩; have HX2 := Lib.hid (HX.out.bel hb); have hz2 := HX2.out.2.2.2; clear hb; unfold tokWW)
                  | (at_builtin; refine wpList_append_any _ rfl (.tmp 62) (.tmp 64) 23 rfl (w.heap.size + 1) 30 i0 _ 5 48 Tryd.underlying23 hi hz0 hz1 hz2' rfl (by decide) _ _ _ rfl (HX2.out.bel bel_lit2).2.1 (w2.heap.size + 1 + 1) (some ⟨w2.heap.size + 1, 0, none⟩) 1 1 [.int .i64 k, .string (bs t), .int .i64 v, .int .i64 (q : Nat), .bool false] rfl (by have := reads_new (w2.alloc (.cells #[.int .i64 k, .string (bs t), .int .i64 v, .int .i64 (q : Nat), .bool false] 30)) 30 5 1 [.int .i64 k, .string (bs t), .int .i64 v, .int .i64 (q : Nat), .bool false] rfl; simpa using this) (by simp [Value.oneCell']) (by unfold maxLen; omega) (by omega) (by simp; omega) ?_; intro v' w3 hown4 hg4 _; have HX3 : Hid (LX w w3 v' (toks ++ [⟨k, t, v, q, false⟩])) := Lib.hid (LX.grown (HX2.out.bel bel_lit2) (by rw [show tokC ⟨k, t, v, q, false⟩ = [.int .i64 k, .string (bs t), .int .i64 v, .int .i64 (q : Nat), .bool false] from rfl]; exact hown4) hg4); clear hown4 hg4))
                have HF2 := Lib.hid (show lexF (s.data.toList.length + 1) 0 s.data.toList = pref (toks ++ [⟨k, t, v, q, false⟩]) (lexF f' (q + n) (dr s (q + n))) by rw [HF.out, HGD.out])
                go_roundg (s.size - (q + n))
                case measure => have := HGK.out; have := HP.out; simp; omega
                case rel => exact ⟨q + n, f', _, rfl, by omega, by omega, by simp; omega, by go_num, HF2, HX3⟩
              · have HGD := Lib.hid hgd
                clear hgd
                go_wp2_with (first
                  | (go_at_call 11; refine (rblank_at _ _ _ HQB).mono ?_; rintro e w' ⟨rfl, rfl⟩)
                  | (go_at_call 12; refine (hon _).mono ?_; rintro e w2 ⟨rfl, hb⟩; have HX2 := Lib.hid (HX.out.bel hb); have hz2 := HX2.out.2.2.2; clear hb; unfold tokWW)
                  | (at_builtin; refine wpList_append_any _ rfl (.tmp 62) (.tmp 64) 23 rfl (w.heap.size + 1) 30 i0 _ 5 48 Tryd.underlying23 hi hz0 hz1 hz2' rfl (by decide) _ _ _ rfl (HX2.out.bel bel_lit2).2.1 (w2.heap.size + 1 + 1) (some ⟨w2.heap.size + 1, 0, none⟩) 1 1 [.int .i64 k, .string (bs t), .int .i64 v, .int .i64 (q : Nat), .bool true] rfl (by have := reads_new (w2.alloc (.cells #[.int .i64 k, .string (bs t), .int .i64 v, .int .i64 (q : Nat), .bool true] 30)) 30 5 1 [.int .i64 k, .string (bs t), .int .i64 v, .int .i64 (q : Nat), .bool true] rfl; simpa using this) (by simp [Value.oneCell']) (by unfold maxLen; omega) (by omega) (by simp; omega) ?_; intro v' w3 hown4 hg4 _; have HX3 : Hid (LX w w3 v' (toks ++ [⟨k, t, v, q, true⟩])) := Lib.hid (LX.grown (HX2.out.bel bel_lit2) (by rw [show tokC ⟨k, t, v, q, true⟩ = [.int .i64 k, .string (bs t), .int .i64 v, .int .i64 (q : Nat), .bool true] from rfl]; exact hown4) hg4); clear hown4 hg4))
                have HF2 := Lib.hid (show lexF (s.data.toList.length + 1) 0 s.data.toList = pref (toks ++ [⟨k, t, v, q, true⟩]) (lexF f' (q + n) (dr s (q + n))) by rw [HF.out, HGD.out])
                go_roundg (s.size - (q + n))
                case measure => have := HGK.out; have := HP.out; simp; omega
                case rel => exact ⟨q + n, f', _, rfl, by omega, by omega, by simp; omega, by go_num, HF2, HX3⟩
    · have HF := Lib.hid (HF.out.trans (lex_stop (f := f) (toks := toks) (show s.size ≤ a by omega)))
      obtain ⟨A, cap, hv, hcap, _⟩ := own_flat tokC 5 tokC_len wr _ _ _ _ toks HX.out.2.1 rfl
      subst hv
      obtain ⟨x1, ⟨x2, x3⟩, x4, x5⟩ := HX.out.1.two
      rcases Nat.eq_zero_or_pos toks.length with h0 | h0
      · have HE := Lib.hid (lexL_nil HL.out (by rw [HF.out, List.eq_nil_of_length_eq_zero h0]))
        have h1 : ((toks.length : Int) == 0) = true := by simp [h0]
        clear h0
        go_wp2
        rw [← HQ.out]
        exact bodyPost_ret (v := .tuple #[.slice none 0 0, .agg #[.int .i64 3, .int .i64 0]]) (by simp [results, Tryd.results8, go_sem, x2, x3]) rfl (LexP.no HE.out (HX.out.stored _ _))
      · have HE := Lib.hid (lexL_ok HL.out HF.out (by intro e; rw [e] at h0; simp at h0))
        have h1 : ((toks.length : Int) == 0) = false := by rw [beq_eq_false_iff_ne]; omega
        go_wp2
        rw [← HQ.out]
        exact bodyPost_ret (v := .tuple #[.slice A toks.length cap, .agg #[.int .i64 0, .int .i64 0]]) (by simp [results, Tryd.results8, go_sem, x2, x3]) rfl (LexP.yes HE.out (HX.out.store _ _) (HX.out.stored _ _))


end Go.Proofs.YtmopeandckmgcaaDoor
