/- ref16: token: strings, names. -/
import Derived.Test.YtpcbcodmocmilaaDoorG07
import Derived.Test.YtpcbcodmocmilaaDoorG26
namespace Go.Proofs.YtpcbcodmocmilaaDoor
open Go.RowKit

/-- The bytes from a place on. -/
theorem sub_list (s : ByteArray) (a : Nat) : (s.extract a s.size).data.toList = dr s a := ext_drop s a
theorem sub_0 (s : ByteArray) (a : Nat) (h : a < s.size) : (s.extract a s.size)[0]'(by simp; omega) = s[a] := by
  have h1 : (s.extract a s.size).data.toList = s[a] :: dr s (a + 1) := by rw [sub_list]; exact drop_cons s a h
  have h2 := list_0 (s.extract a s.size) (by simp; omega)
  rw [h1] at h2
  injection h2 with h2 _
  exact h2.symm
theorem sub_dr (s : ByteArray) (a k : Nat) : dr (s.extract a s.size) k = dr s (a + k) := by unfold dr; rw [ext_drop, List.drop_drop]
theorem sub_size (s : ByteArray) (a : Nat) : (s.extract a s.size).size = s.size - a := by simp
theorem rT_str (s : ByteArray) (a : Nat) (h : a < s.size) (hc : s[a] = 34 ∨ s[a] = 39) : tokT (dr s a) = match txtF (s.size - a) s[a] (dr s (a + 1)) with | some (t, n) => .ok (4, t, 0, n + 1) | none => .error 3 := by
  have := tokT_str (s.extract a s.size) (by simp; omega) (by rw [sub_0 s a h]; exact hc)
  rw [sub_list, sub_dr, sub_0 s a h, sub_size] at this; exact this
theorem rT_num (s : ByteArray) (a : Nat) (h : a < s.size) (hc : ¬ (s[a] = 34 ∨ s[a] = 39)) (hd : isDig s[a] = true ∨ s[a] = 45) : tokT (dr s a) = match numT (dr s a) with | .ok (v, n) => .ok (3, [], v, n) | .error e => .error e := by
  have := tokT_num (s.extract a s.size) (by simp; omega) (by rw [sub_0 s a h]; exact hc) (by rw [sub_0 s a h]; exact hd)
  rw [sub_list] at this; exact this
theorem rT_nam (s : ByteArray) (a : Nat) (h : a < s.size) (hc : ¬ (s[a] = 34 ∨ s[a] = 39)) (hd : ¬ (isDig s[a] = true ∨ s[a] = 45)) (hn : 0 < nameL (dr s a)) : tokT (dr s a) = .ok (2, (dr s a).take (nameL (dr s a)), 0, nameL (dr s a)) := by
  have := tokT_nam (s.extract a s.size) (by simp; omega) (by rw [sub_0 s a h]; exact hc) (by rw [sub_0 s a h]; exact hd) (by rw [sub_list]; exact hn)
  rw [sub_list] at this; exact this
theorem rT_sgn (s : ByteArray) (a : Nat) (h : a < s.size) (hc : ¬ (s[a] = 34 ∨ s[a] = 39)) (hd : ¬ (isDig s[a] = true ∨ s[a] = 45)) (hn : nameL (dr s a) = 0) : tokT (dr s a) = match signsL.find? (fun x => (dr s a).take x.length == x) with | some x => .ok (1, x, 0, x.length) | none => .error 3 := by
  have := tokT_sgn (s.extract a s.size) (by simp; omega) (by rw [sub_0 s a h]; exact hc) (by rw [sub_0 s a h]; exact hd) (by rw [sub_list]; exact hn)
  rw [sub_list] at this; exact this
theorem name_num {b : UInt8} {r : List UInt8} (h : isDig b = true ∨ b = 45) : nameL (b :: r) = 0 := by
  have hl : letL (b :: r) = 0 := by
    unfold letL
    have hb : (b.toNat : Int) < 128 ∧ isLet (b.toNat : Int) = false := by
      rcases h with h | h
      · have := (dig_int b).1 h
        refine ⟨by omega, ?_⟩
        unfold isLet
        rw [Bool.eq_false_iff]; simp; omega
      · rw [h]; exact ⟨by decide, by decide⟩
    rw [scal_asc b r hb.1, hb.2]; rfl
  unfold nameL; rw [if_pos hl]
/-- What is returned of a token. -/
def tokWW (k : Int) (s : ByteArray) (n : Int) (a : Nat) : Value := .agg #[.int .i64 k, .string s, .int .i64 n, .int .i64 (a : Nat), .bool false]
def ROneE (l : List UInt8) (a : Nat) (e : Ending) : Prop :=
  match tokT l with
  | .error x => e = .returned (.tuple #[tokWW 0 ⟨#[]⟩ 0 0, .int .i64 0, .int .i64 x])
  | .ok (k, t, v, n) => e = .returned (.tuple #[tokWW k (bs t) v a, .int .i64 ((a + n : Nat) : Int), .int .i64 0])
def ROne (s : ByteArray) (a : Nat) (w : World) (e : Ending) (w' : World) : Prop := ROneE (dr s a) a e ∧ Bel w.heap.size w w'
theorem ROneE.no {l : List UInt8} {a : Nat} {x : Int} (h : tokT l = .error x) : ROneE l a (.returned (.tuple #[.agg #[.int .i64 0, .string ⟨#[]⟩, .int .i64 0, .int .i64 0, .bool false], .int .i64 0, .int .i64 x])) := by
  unfold ROneE; rw [h]; rfl
theorem ROneE.yes {l : List UInt8} {a : Nat} {k v : Int} {t : List UInt8} {n : Nat} (h : tokT l = .ok (k, t, v, n)) {s : ByteArray} {m : Int} (h1 : s = bs t) (h2 : m = ((a + n : Nat) : Int)) : ROneE l a (.returned (.tuple #[.agg #[.int .i64 k, .string s, .int .i64 v, .int .i64 (a : Nat), .bool false], .int .i64 m, .int .i64 0])) := by
  unfold ROneE; rw [h, h1, h2]; rfl
theorem bel_s5 {w w2 : World} {u0 u1 u2 u3 u4 : Value} (h : Bel w.heap.size w w2) :
    Bel w.heap.size w (((((w2.setCell ⟨w.heap.size, 0, none⟩ u0).setCell ⟨w.heap.size, 1, none⟩ u1).setCell ⟨w.heap.size, 2, none⟩ u2).setCell ⟨w.heap.size, 3, none⟩ u3).setCell ⟨w.heap.size, 4, none⟩ u4) :=
  ((((h.setCell (Nat.le_refl _) _).setCell (Nat.le_refl _) _).setCell (Nat.le_refl _) _).setCell (Nat.le_refl _) _).setCell (Nat.le_refl _) _
def TOK0 : Array Value := #[.int .i64 0, .string ⟨#[]⟩, .int .i64 0, .int .i64 0, .bool false]
/-- The result's cell and the empty token. -/
def RK (w wr : World) : Prop := Blk wr w.heap.size 76 TOK0 ∧ Blk wr (w.heap.size + 1) 76 TOK0 ∧ Bel w.heap.size w wr
theorem RK.start (w : World) : RK w ((w.alloc (.cells #[.int .i64 0, .string ⟨#[]⟩, .int .i64 0, .int .i64 0, .bool false] 76)).alloc (.cells #[.int .i64 0, .string ⟨#[]⟩, .int .i64 0, .int .i64 0, .bool false] 76)) :=
  ⟨(Blk.new w _ _).alloc _, Blk.new1 w _ _ _, bel_lit2⟩
theorem RK.bel {w wr w2 : World} (h : RK w wr) (hb : Bel wr.heap.size wr w2) : RK w w2 := ⟨h.1.bel hb h.1.lt, h.2.1.bel hb h.2.1.lt, h.2.2.next hb⟩
theorem RK.cells {w wr : World} (h : RK w wr) : (w.heap.size < wr.heap.size ∧ w.heap.size + 1 < wr.heap.size) ∧ (wr.cell? ⟨w.heap.size + 1, 0, none⟩ = some (.int .i64 0) ∧ wr.cell? ⟨w.heap.size + 1, 1, none⟩ = some (.string ⟨#[]⟩) ∧ wr.cell? ⟨w.heap.size + 1, 2, none⟩ = some (.int .i64 0) ∧ wr.cell? ⟨w.heap.size + 1, 3, none⟩ = some (.int .i64 0) ∧ wr.cell? ⟨w.heap.size + 1, 4, none⟩ = some (.bool false)) ∧
    (wr.frozen? ⟨w.heap.size, 0, none⟩ = false ∧ wr.frozen? ⟨w.heap.size, 1, none⟩ = false ∧ wr.frozen? ⟨w.heap.size, 2, none⟩ = false ∧ wr.frozen? ⟨w.heap.size, 3, none⟩ = false ∧ wr.frozen? ⟨w.heap.size, 4, none⟩ = false) ∧
    (wr.cell? ⟨w.heap.size, 0, none⟩ = some (.int .i64 0) ∧ wr.cell? ⟨w.heap.size, 1, none⟩ = some (.string ⟨#[]⟩) ∧ wr.cell? ⟨w.heap.size, 2, none⟩ = some (.int .i64 0) ∧ wr.cell? ⟨w.heap.size, 3, none⟩ = some (.int .i64 0) ∧ wr.cell? ⟨w.heap.size, 4, none⟩ = some (.bool false)) :=
  ⟨⟨h.1.lt, h.2.1.lt⟩, ⟨h.2.1.cell 0, h.2.1.cell 1, h.2.1.cell 2, h.2.1.cell 3, h.2.1.cell 4⟩, ⟨h.1.frozen 0, h.1.frozen 1, h.1.frozen 2, h.1.frozen 3, h.1.frozen 4⟩, ⟨h.1.cell 0, h.1.cell 1, h.1.cell 2, h.1.cell 3, h.1.cell 4⟩⟩
theorem nine' (s : ByteArray) (a : Nat) (h0 : a < s.size) (hc : ¬ (s[a] = 34 ∨ s[a] = 39)) : ((s[a].toNat : Int) == 34) = false ∧ ((s[a].toNat : Int) == 39) = false :=
  ⟨u8_ne (n := 34) (fun h => hc (.inl h)) (by omega), u8_ne (n := 39) (fun h => hc (.inr h)) (by omega)⟩

set_option maxRecDepth 100000 in
set_option maxHeartbeats 2000000 in
theorem rtok_str (s : ByteArray) (a : Nat) (w : World) (hs : s.size ≤ 1000000) (h0 : a < s.size) (hc : s[a] = 34 ∨ s[a] = 39) :
    Calls Tryd.prog 23 #[.string s, .int .i64 (a : Int)] w (ROne s a w) := by
  have HE := Lib.hid (rT_str s a h0 hc)
  have htx := fun w => rtext_any s a s[a] w hs h0 rfl hc
  have hq : ((s[a].toNat : Int) == 34) = true ∨ (((s[a].toNat : Int) == 34) = false ∧ ((s[a].toNat : Int) == 39) = true) := by
    rcases hc with hc | hc
    · exact .inl (by rw [hc]; rfl)
    · exact .inr ⟨by rw [hc]; rfl, by rw [hc]; rfl⟩
  have hbi := s[a].toNat_lt
  have HR := Lib.hid (RK.start w)
  unfold txQ at htx
  clear hc
  cases ht : txtF (s.size - a) s[a] (dr s (a + 1)) with
  | none =>
    have HE := Lib.hid (show tokT (dr s a) = .error 3 by rw [HE.out, ht])
    rw [ht] at htx
    clear ht
    rcases hq with hq | ⟨hq, hq2⟩
    all_goals
      go_enter Tryd.func23, Tryd.ntmps23
      generalize hQ : bodyPost Tryd.prog Tryd.f23 (ROne s a w) = Q
      have HQ := Lib.hid hQ; clear hQ
      go_wp2_with (go_at_call 40; refine (htx _).mono ?_; rintro e w2 ⟨rfl, hb⟩; have HR2 := Lib.hid (HR.out.bel hb); clear hb; obtain ⟨⟨z1, z2⟩, ⟨c0, c1, c2, c3, c4⟩, ⟨f0, f1, f2, f3, f4⟩, d0, d1, d2, d3, d4⟩ := HR2.out.cells)
      rw [← HQ.out]
      exact bodyPost_ret (v := .tuple #[.agg #[.int .i64 0, .string ⟨#[]⟩, .int .i64 0, .int .i64 0, .bool false], .int .i64 0, .int .i64 3]) (by simp [results, Tryd.results23, go_sem, d0, d1, d2, d3, d4]) rfl ⟨ROneE.no HE.out, bel_s5 HR2.out.2.2⟩
  | some tk =>
    obtain ⟨t, k⟩ := tk
    have HE := Lib.hid (show tokT (dr s a) = .ok (4, t, 0, k + 1) by rw [HE.out, ht])
    rw [ht] at htx
    clear ht
    have hk1 : ¬ (((a + 1 + k : Nat) : Int)) < 0 := by omega
    rcases hq with hq | ⟨hq, hq2⟩
    all_goals
      go_enter Tryd.func23, Tryd.ntmps23
      generalize hQ : bodyPost Tryd.prog Tryd.f23 (ROne s a w) = Q
      have HQ := Lib.hid hQ; clear hQ
      go_wp2_with (go_at_call 40; refine (htx _).mono ?_; rintro e w2 ⟨rfl, hb⟩; have HR2 := Lib.hid (HR.out.bel hb); clear hb; obtain ⟨⟨z1, z2⟩, ⟨c0, c1, c2, c3, c4⟩, ⟨f0, f1, f2, f3, f4⟩, d0, d1, d2, d3, d4⟩ := HR2.out.cells)
      rw [← HQ.out]
      exact bodyPost_ret (v := .tuple #[.agg #[.int .i64 4, .string (bs ([] ++ t)), .int .i64 0, .int .i64 (a : Nat), .bool false], .int .i64 ((a + 1 + k : Nat) : Int), .int .i64 0]) (by simp [results, Tryd.results23, go_sem, d0, d1, d2, d3, d4]) rfl ⟨ROneE.yes HE.out rfl (by omega), bel_s5 HR2.out.2.2⟩

set_option maxRecDepth 100000 in
set_option maxHeartbeats 2000000 in
theorem rtok_nam (s : ByteArray) (a : Nat) (w : World) (hs : s.size ≤ 1000000) (h0 : a < s.size) (hc : ¬ (s[a] = 34 ∨ s[a] = 39)) (hn : 0 < nameL (dr s a)) :
    Calls Tryd.prog 23 #[.string s, .int .i64 (a : Int)] w (ROne s a w) := by
  have hd : ¬ (isDig s[a] = true ∨ s[a] = 45) := by
    intro h
    rw [show dr s a = s[a] :: dr s (a + 1) from drop_cons s a h0, name_num h] at hn; omega
  have HE := Lib.hid (rT_nam s a h0 hc hd hn)
  obtain ⟨hq1, hq2⟩ := nine' s a h0 hc
  have hna := fun w => rname_any s a w hs (by omega)
  have hnl := nameL_le (dr s a)
  rw [dr, List.length_drop, len_toList] at hnl
  obtain ⟨k, hk⟩ : ∃ k, nameL (dr s a) = k := ⟨_, rfl⟩
  change nameL (dr s a) ≤ _ at hnl
  rw [hk] at hnl hn HE hna
  have hbi := s[a].toNat_lt
  have HR := Lib.hid (RK.start w)
  have hgt : ((a + k : Nat) : Int) > (a : Int) := by omega
  clear hc hd hk
  go_enter Tryd.func23, Tryd.ntmps23
  generalize hQ : bodyPost Tryd.prog Tryd.f23 (ROne s a w) = Q
  have HQ := Lib.hid hQ; clear hQ
  go_wp2_with (go_at_call 41; refine (hna _).mono ?_; rintro e w2 ⟨rfl, hb⟩; have HR2 := Lib.hid (HR.out.bel hb); clear hb; obtain ⟨⟨z1, z2⟩, ⟨c0, c1, c2, c3, c4⟩, ⟨f0, f1, f2, f3, f4⟩, d0, d1, d2, d3, d4⟩ := HR2.out.cells)
  rw [← HQ.out]
  exact bodyPost_ret (v := .tuple #[.agg #[.int .i64 2, .string (s.extract a (a + k)), .int .i64 0, .int .i64 (a : Nat), .bool false], .int .i64 ((a + k : Nat) : Int), .int .i64 0]) (by simp [results, Tryd.results23, go_sem, d0, d1, d2, d3, d4]) rfl ⟨ROneE.yes HE.out (bs_of (ext_mid s a k)) rfl, bel_s5 HR2.out.2.2⟩

end Go.Proofs.YtpcbcodmocmilaaDoor
