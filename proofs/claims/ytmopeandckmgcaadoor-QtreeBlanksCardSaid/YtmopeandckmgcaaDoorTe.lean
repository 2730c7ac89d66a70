/- QtreeMany, walked (printed by gen_many.py). -/
import Derived.Deep.LoopGhost
import Derived.Test.YtmopeandckmgcaaDoorTa
import Derived.Test.YtmopeandckmgcaaDoorTd
import Derived.Test.YtmopeandckmgcaaDoorTr
import Derived.Test.YtmopeandckmgcaaDoorRd
namespace Go.Proofs.YtmopeandckmgcaaDoor
open Go.RowKit

theorem own_slice {w : World} {base : Nat} {e : TypeId} {k n : Nat} {v : Value} {xs : List Value} (h : w.ownsRow base e k v n xs) : ∃ A c, v = .slice A n c := by
  rcases h.2 with ⟨h1, h2⟩ | ⟨g, cap, cur, h1, _⟩
  · exact ⟨none, 0, by rw [h1, h2]⟩
  · exact ⟨_, _, h1⟩
theorem own_eq {w w' : World} {base : Nat} {e : TypeId} {k n : Nat} {v : Value} {xs : List Value} (h : w.ownsRow base e k v n xs) (hb : ∀ g, v.ownBlock = some g → w'.heap[g]? = w.heap[g]?) : w'.ownsRow base e k v n xs := by
  refine ⟨h.1, ?_⟩
  rcases h.2 with h' | ⟨g, cap, cur, h1, h2, h3, h4⟩
  · exact .inl h'
  · exact .inr ⟨g, cap, cur, h1, h2, (hb g (by rw [h1]; rfl)).trans h3, h4⟩
def KN (N : Nat) (b : Nat) : Prop := b < N
theorem SegsG.kn {K : Nat → Prop} {m : Nat} {w : World} {v : Value} {l : List SegT} (h : SegsG K (ExR K m w) w v l) : SegsG (KN w.heap.size) (ExR (KN w.heap.size) m w) w v l :=
  h.kp (Kp.id_ fun _ _ hl => hl) (Nat.le_refl _)
theorem SegsG.eq {N M : Nat} {m : Nat} {w w' : World} {v : Value} {l : List SegT} (h : SegsG (KN N) (ExR (KN N) m w) w v l) (hN : N ≤ M) (hs : w.heap.size ≤ w'.heap.size) (hb : ∀ b, b < N → w'.heap[b]? = w.heap[b]?) : SegsG (KN M) (ExR (KN M) m w') w' v l :=
  h.kp ⟨hs, fun b hK _ => ⟨Nat.lt_of_lt_of_le hK hN, hb b hK⟩⟩ (Nat.le_refl _)
theorem app_list (a b : ByteArray) : (a ++ b).data.toList = a.data.toList ++ b.data.toList := by simp [ByteArray.data_append]
/-- A query that was read, its fault behind it. -/
structure M1 (w W : World) (p : PathT) (b : Nat) (A : Option Addr) (c m : Nat) : Prop where
  bel : Bel w.heap.size w W
  p1 : Blk W b 33 #[.bool p.abs, .slice A p.segs.length c]
  f1 : Blk W (b + 1) 26 #[.int .i64 0, .int .i64 0]
  g1 : SegsG (KN b) (ExR (KN b) m W) W (.slice A p.segs.length c) p.segs
theorem M1.start {w w2 : World} {p : PathT} {A : Option Addr} {c m : Nat} {K : Nat → Prop} (hb : Bel w.heap.size w w2) (hs : SegsG K (ExR K m w2) w2 (.slice A p.segs.length c) p.segs) :
    M1 w ((w2.alloc (.cells #[.bool p.abs, .slice A p.segs.length c] 33)).alloc (.cells #[.int .i64 0, .int .i64 0] 26)) p w2.heap.size A c m := by
  have hba : Bel w2.heap.size w2 ((w2.alloc (.cells #[.bool p.abs, .slice A p.segs.length c] 33)).alloc (.cells #[.int .i64 0, .int .i64 0] 26)) := ((Bel.refl _ _).alloc (Nat.le_refl _) _).alloc (by simp) _
  exact ⟨hb.next hba, (Blk.new w2 _ _).alloc _, Blk.new1 w2 _ _ _, hs.kn.eq (Nat.le_refl _) hba.size fun b hb => hba.block b hb⟩
theorem M1.keep {w W W' : World} {p : PathT} {b : Nat} {A : Option Addr} {c m : Nat} (h : M1 w W p b A c m) (hb : Bel w.heap.size w W') (hs : W.heap.size ≤ W'.heap.size) (he : ∀ k, k < b + 2 → W'.heap[k]? = W.heap[k]?) : M1 w W' p b A c m :=
  ⟨hb, (he _ (by omega)).trans h.p1, (he _ (by omega)).trans h.f1, h.g1.eq (Nat.le_refl _) hs fun k hk => he k (by omega)⟩
theorem M1.lt {w W : World} {p : PathT} {b : Nat} {A : Option Addr} {c m : Nat} (h : M1 w W p b A c m) : b + 1 < W.heap.size := h.f1.lt
theorem M1.next {w W W' : World} {p : PathT} {b : Nat} {A : Option Addr} {c m : Nat} (h : M1 w W p b A c m) (hb : Bel W.heap.size W W') : M1 w W' p b A c m :=
  h.keep (h.bel.next hb) hb.size fun k hk => hb.block k (by have := h.lt; omega)
theorem M1.al {w W : World} {p : PathT} {b : Nat} {A : Option Addr} {c m : Nat} (h : M1 w W p b A c m) (o : Obj) : M1 w (W.alloc o) p b A c m := h.next bel_lit

set_option maxRecDepth 100000 in
set_option maxHeartbeats 4000000 in
theorem many_long (s t : ByteArray) (w : World) (hl : ¬ (s.size ≤ 200 ∧ t.size ≤ 200)) : Calls Tryd.prog 5 #[.string s, .string t] w fun e w' => e = .returned (.bool true) ∧ Bel w.heap.size w w' := by
  have HAW := Lib.hid (awake_any w)
  by_cases h1 : s.size ≤ 200
  · have h2 : ¬ t.size ≤ 200 := fun h => hl ⟨h1, h⟩
    clear hl
    go_enter Tryd.func5, Tryd.ntmps5
    go_wp2_with (first | (go_at_call 7; (with_reducible refine HAW.out.mono ?_); rintro e w1 ⟨rfl, hb⟩; have HB1 := Lib.hid hb; have HAW2 := Lib.hid (awake_any w1); clear hb) | (go_at_call 7; (with_reducible refine HAW2.out.mono ?_); rintro e w2 ⟨rfl, hb⟩; have HB2 := Lib.hid (HB1.out.next hb); clear hb))
    go_ret
    exact ⟨rfl, HB2.out⟩
  · clear hl
    go_enter Tryd.func5, Tryd.ntmps5
    go_wp2_with (first | (go_at_call 7; (with_reducible refine HAW.out.mono ?_); rintro e w1 ⟨rfl, hb⟩; have HB1 := Lib.hid hb; have HAW2 := Lib.hid (awake_any w1); clear hb) | (go_at_call 7; (with_reducible refine HAW2.out.mono ?_); rintro e w2 ⟨rfl, hb⟩; have HB2 := Lib.hid (HB1.out.next hb); clear hb))
    go_ret
    exact ⟨rfl, HB2.out⟩

set_option maxRecDepth 100000 in
set_option maxHeartbeats 4000000 in
theorem many_err1 (s t : ByteArray) (w : World) (hs : s.size ≤ 200) (ht : t.size ≤ 200) (x a : Int) (hp : parseT true s.data.toList = .error (x, a)) : Calls Tryd.prog 5 #[.string s, .string t] w fun e w' => e = .returned (.bool true) ∧ Bel w.heap.size w w' := by
  have HAW := Lib.hid (awake_any w)
  have hx := parse_ne hp
  have hx' : (x != 0) = true := bne_iff_ne.2 hx
  have HPA := Lib.hid (fun W => parse_err (s := s) W (by omega) hp)
  have HPB := Lib.hid (fun W => parse_any t W (by omega))
  clear hp hx
  cases hq : parseT true t.data.toList with
  | error y =>
    obtain ⟨y, b⟩ := y
    have HPB2 := Lib.hid (fun W => parse_err (s := t) W (by omega) hq)
    clear hq HPB
    go_enter Tryd.func5, Tryd.ntmps5
    go_wp2_with (first | (go_at_call 7; (with_reducible refine HAW.out.mono ?_); rintro e w1 ⟨rfl, hb⟩; have HB1 := Lib.hid hb; have HAW2 := Lib.hid (awake_any w1); clear hb) | (go_at_call 9; (with_reducible refine (HPA.out _).mono ?_); rintro e w2 ⟨rfl, hb⟩; have HB2 := Lib.hid (HB1.out.next hb); have HP6 := Lib.hid (Blk.new1 w2 (.cells #[.bool false, .slice none 0 0] 33) 26 #[.int .i64 x, .int .i64 a]); have HB2a := Lib.hid ((HB2.out.alloc HB2.out.size (.cells #[.bool false, .slice none 0 0] 33)).alloc (by have := HB2.out.size; simp; omega) (.cells #[.int .i64 x, .int .i64 a] 26)); clear hb) | (go_at_call 9; (with_reducible refine (HPB2.out _).mono ?_); rintro e w3 ⟨rfl, hb⟩; have HB3 := Lib.hid (HB2a.out.next hb); have HQ6 := Lib.hid (((HP6.out.bel hb HP6.out.lt).alloc (.cells #[.bool false, .slice none 0 0] 33)).alloc (.cells #[.int .i64 y, .int .i64 b] 26)); clear hb; obtain ⟨z, ⟨d0, d1⟩, ⟨z0, z1⟩⟩ := HQ6.out.c2))
    go_ret
    exact ⟨rfl, (HB3.out.alloc HB3.out.size _).alloc (by have := HB3.out.size; simp; omega) _⟩
  | ok q =>
    have HPB2 := Lib.hid (fun W => parse_ok (s := t) W (by omega) hq)
    clear hq HPB
    go_enter Tryd.func5, Tryd.ntmps5
    go_wp2_with (first | (go_at_call 7; (with_reducible refine HAW.out.mono ?_); rintro e w1 ⟨rfl, hb⟩; have HB1 := Lib.hid hb; have HAW2 := Lib.hid (awake_any w1); clear hb) | (go_at_call 9; (with_reducible refine (HPA.out _).mono ?_); rintro e w2 ⟨rfl, hb⟩; have HB2 := Lib.hid (HB1.out.next hb); have HP6 := Lib.hid (Blk.new1 w2 (.cells #[.bool false, .slice none 0 0] 33) 26 #[.int .i64 x, .int .i64 a]); have HB2a := Lib.hid ((HB2.out.alloc HB2.out.size (.cells #[.bool false, .slice none 0 0] 33)).alloc (by have := HB2.out.size; simp; omega) (.cells #[.int .i64 x, .int .i64 a] 26)); clear hb) | (go_at_call 9; (with_reducible refine (HPB2.out _).mono ?_); rintro e w3 ⟨m, A, c, rfl, hsg, hb⟩; have HB3 := Lib.hid (HB2a.out.next hb); have HQ6 := Lib.hid (((HP6.out.bel hb HP6.out.lt).alloc (.cells #[.bool q.abs, .slice A q.segs.length c] 33)).alloc (.cells #[.int .i64 0, .int .i64 0] 26)); clear hb hsg; obtain ⟨z, ⟨d0, d1⟩, ⟨z0, z1⟩⟩ := HQ6.out.c2))
    go_ret
    exact ⟨rfl, (HB3.out.alloc HB3.out.size _).alloc (by have := HB3.out.size; simp; omega) _⟩

set_option maxRecDepth 100000 in
set_option maxHeartbeats 4000000 in
theorem many_err2 (s t : ByteArray) (w : World) (hs : s.size ≤ 200) (ht : t.size ≤ 200) (p : PathT) (hp : parseT true s.data.toList = .ok p) (x a : Int) (hq : parseT true t.data.toList = .error (x, a)) : Calls Tryd.prog 5 #[.string s, .string t] w fun e w' => e = .returned (.bool true) ∧ Bel w.heap.size w w' := by
  have HAW := Lib.hid (awake_any w)
  have hx := parse_ne hq
  have hx' : (x != 0) = true := bne_iff_ne.2 hx
  have HPA := Lib.hid (fun W => parse_ok (s := s) W (by omega) hp)
  have HPB := Lib.hid (fun W => parse_err (s := t) W (by omega) hq)
  clear hp hq hx
  go_enter Tryd.func5, Tryd.ntmps5
  go_wp2_with (first | (go_at_call 7; (with_reducible refine HAW.out.mono ?_); rintro e w1 ⟨rfl, hb⟩; have HB1 := Lib.hid hb; have HAW2 := Lib.hid (awake_any w1); clear hb) | (go_at_call 9; (with_reducible refine (HPA.out _).mono ?_); rintro e w2 ⟨m1, A1, c1, rfl, hsg, hb⟩; have H1 := Lib.hid (M1.start (HB1.out.next hb) hsg); have HB2a := Lib.hid H1.out.bel; have HP6 := Lib.hid H1.out.f1; clear hb hsg) | (go_at_call 9; (with_reducible refine (HPB.out _).mono ?_); rintro e w3 ⟨rfl, hb⟩; have HB3 := Lib.hid (HB2a.out.next hb); have HQ6 := Lib.hid (((HP6.out.bel hb HP6.out.lt).alloc (.cells #[.bool false, .slice none 0 0] 33)).alloc (.cells #[.int .i64 x, .int .i64 a] 26)); clear hb; obtain ⟨z, ⟨d0, d1⟩, ⟨z0, z1⟩⟩ := HQ6.out.c2))
  go_ret
  exact ⟨rfl, (HB3.out.alloc HB3.out.size _).alloc (by have := HB3.out.size; simp; omega) _⟩

set_option maxRecDepth 100000 in
set_option maxHeartbeats 4000000 in
theorem many_one (s t : ByteArray) (w : World) (hs : s.size ≤ 200) (p q : PathT) (hp : parseT true s.data.toList = .ok p) (hq : parseT true t.data.toList = .ok q) (ht1 : t.size = 1) (X : ByteArray) (hX : X = s ++ ⟨#[32]⟩) (hx : parseT true X.data.toList = .error (3, (s.size : Nat))) : Calls Tryd.prog 5 #[.string s, .string t] w fun e w' => e = .returned (.bool true) ∧ Bel w.heap.size w w' := by
  have HAW := Lib.hid (awake_any w)
  have HPA := Lib.hid (fun W => parse_ok (s := s) W (by omega) hp)
  have HPB := Lib.hid (fun W => parse_ok (s := t) W (by omega) hq)
  have hxs : X.size ≤ 1000000 := by
    rw [hX, ByteArray.size_append]
    show s.size + 1 ≤ 1000000
    omega
  have HPC := Lib.hid (fun W => parse_err (s := X) W hxs hx)
  have h1t : (1 : Int) ≤ (t.size : Int) := by omega
  clear hp hq hx hxs
  subst hX
  go_enter Tryd.func5, Tryd.ntmps5
  go_wp2_with (first | (go_at_call 7; (with_reducible refine HAW.out.mono ?_); rintro e w1 ⟨rfl, hb⟩; have HB1 := Lib.hid hb; have HAW2 := Lib.hid (awake_any w1); clear hb) | (go_at_call 9; (with_reducible refine (HPA.out _).mono ?_); rintro e w2 ⟨m1, A1, c1, rfl, hsg, hb⟩; have H1 := Lib.hid (M1.start (HB1.out.next hb) hsg); have HB2a := Lib.hid H1.out.bel; have HP6 := Lib.hid H1.out.f1; clear hb hsg) | (go_at_call 9; (with_reducible refine (HPB.out _).mono ?_); rintro e w3 ⟨m2, A2, c2, rfl, hsg, hb⟩; have H2 := Lib.hid (M1.start (H1.out.bel.next hb) hsg); have H1b := Lib.hid (((H1.out.next hb).al (.cells #[.bool q.abs, .slice A2 q.segs.length c2] 33)).al (.cells #[.int .i64 0, .int .i64 0] 26)); have HB3a := Lib.hid H2.out.bel; clear hb hsg; obtain ⟨z, ⟨d0, d1⟩, ⟨z0, z1⟩⟩ := H1b.out.f1.c2; obtain ⟨y, ⟨e0, e1⟩, ⟨y0, y1⟩⟩ := H2.out.f1.c2) | (go_at_call 9; (with_reducible refine (HPC.out _).mono ?_); rintro e w4 ⟨rfl, hb⟩; have HB4 := Lib.hid (HB3a.out.next hb); clear hb))
  go_ret
  exact ⟨rfl, (HB4.out.alloc HB4.out.size _).alloc (by have := HB4.out.size; simp; omega) _⟩

set_option maxRecDepth 100000 in
set_option maxHeartbeats 4000000 in
theorem many_two (s t : ByteArray) (w : World) (hs : s.size ≤ 200) (ht : t.size ≤ 200) (p q : PathT) (hp : parseT true s.data.toList = .ok p) (hq : parseT true t.data.toList = .ok q) (ht1 : 1 < t.size) (hln : p.segs.length ≤ 1000) (hln2 : q.segs.length ≤ 1000) (xs : List SegT) (hxs' : p.segs ++ q.segs = xs) (X : ByteArray) (hX : X = s ++ ⟨#[32]⟩ ++ t.extract 1 t.size) (hx : parseT true X.data.toList = .ok ⟨true, xs⟩) : Calls Tryd.prog 5 #[.string s, .string t] w fun e w' => e = .returned (.bool true) ∧ Bel w.heap.size w w' := by
  have HAW := Lib.hid (awake_any w)
  have HPA := Lib.hid (fun W => parse_ok (s := s) W (by omega) hp)
  have HPB := Lib.hid (fun W => parse_ok (s := t) W (by omega) hq)
  have hxs : X.size ≤ 1000000 := by
    rw [hX, ByteArray.size_append, ByteArray.size_append, ByteArray.size_extract]
    show s.size + 1 + (min t.size t.size - 1) ≤ 1000000
    omega
  have HPC := Lib.hid (fun W => parse_ok (s := X) W hxs hx)
  have h1t : (1 : Int) ≤ (t.size : Int) := by omega
  have h1t2 : (1 : Int) < (t.size : Int) := by omega
  have h1t3 : ¬ ((t.size : Int) = 1) := by omega
  have h1t4 : ((t.size : Int) == 1) = false := by rw [beq_eq_false_iff_ne]; exact h1t3
  obtain ⟨i0, hi, hq0, hq1, hq2⟩ := info_parts info_seg
  clear hp hq hx hxs
  subst hX
  go_enter Tryd.func5, Tryd.ntmps5
  go_upto_region 12 with (first | (go_at_call 7; (with_reducible refine HAW.out.mono ?_); rintro e w1 ⟨rfl, hb⟩; have HB1 := Lib.hid hb; have HAW2 := Lib.hid (awake_any w1); clear hb) | (go_at_call 9; (with_reducible refine (HPA.out _).mono ?_); rintro e w2 ⟨m1, A1, c1, rfl, hsg, hb⟩; have H1 := Lib.hid (M1.start (HB1.out.next hb) hsg); have HB2a := Lib.hid H1.out.bel; have HP6 := Lib.hid H1.out.f1; clear hb hsg) | (go_at_call 9; (with_reducible refine (HPB.out _).mono ?_); rintro e w3 ⟨m2, A2, c2, rfl, hsg, hb⟩; have H2 := Lib.hid (M1.start (H1.out.bel.next hb) hsg); have H1b := Lib.hid (((H1.out.next hb).al (.cells #[.bool q.abs, .slice A2 q.segs.length c2] 33)).al (.cells #[.int .i64 0, .int .i64 0] 26)); have HB3a := Lib.hid H2.out.bel; clear hb hsg; obtain ⟨z, ⟨d0, d1⟩, ⟨z0, z1⟩⟩ := H1b.out.f1.c2; obtain ⟨y, ⟨e0, e1⟩, ⟨y0, y1⟩⟩ := H2.out.f1.c2) | (go_at_call 9; (with_reducible refine (HPC.out _).mono ?_); rintro e w4 ⟨m3, A3, c3, rfl, hsg, hb⟩; simp only at hsg ⊢; have HBB := Lib.hid hb; have HSG := Lib.hid hsg; clear hb hsg z d0 d1 z0 z1 y e0 e1 y0 y1))
  obtain ⟨W, hW⟩ : ∃ W : World, W = (((w4.alloc (.cells #[.bool true, .slice A3 xs.length c3] 33)).alloc (.cells #[.int .i64 0, .int .i64 0] 26)).alloc (.cells #[.bool true, .slice none 0 0] 33)) := ⟨_, rfl⟩
  rw [← hW]
  have hw34 : w3.heap.size + 1 < w4.heap.size := Nat.lt_of_lt_of_le H2.out.lt HBB.out.size
  have hw24 : w2.heap.size + 1 < w4.heap.size := Nat.lt_of_lt_of_le H1b.out.lt HBB.out.size
  have H1c := Lib.hid (show M1 w W p w2.heap.size A1 c1 m1 by rw [hW]; exact (((H1b.out.next HBB.out).al _).al _).al _)
  have H2c := Lib.hid (show M1 w W q w3.heap.size A2 c2 m2 by rw [hW]; exact (((H2.out.next HBB.out).al _).al _).al _)
  have H3c := Lib.hid (show M1 w W ⟨true, xs⟩ w4.heap.size A3 c3 m3 by rw [hW]; exact (M1.start (p := ⟨true, xs⟩) (HB3a.out.next HBB.out) HSG.out).al _)
  have HT := Lib.hid (show Blk W (w4.heap.size + 2) 33 #[.bool true, .slice none 0 0] by rw [hW]; have := Blk.new ((w4.alloc (.cells #[.bool true, .slice A3 xs.length c3] 33)).alloc (.cells #[.int .i64 0, .int .i64 0] 26)) 33 #[.bool true, .slice none 0 0]; simpa using this)
  have hsW : w4.heap.size + 2 < W.heap.size := HT.out.lt
  have hwW := H1c.out.bel.size
  have HWW := Lib.hid (show w.heap.size ≤ w4.heap.size from (HB3a.out.next HBB.out).size)
  obtain ⟨css1, hl1, hk1, hr1, hrd1⟩ := RowG.css (by decide) H1c.out.g1
  have HRD1 := Lib.hid hrd1
  have HON1 := Lib.hid (flat_one (k := 2) (R := RSeg) RSeg_one hl1 hr1)
  have HR1 := Lib.hid hr1
  have HK1 := Lib.hid hk1
  have HL1 := Lib.hid hl1
  obtain ⟨tz, ⟨t0, t1⟩, ⟨tf0, tf1⟩⟩ := HT.out.c2
  obtain ⟨az, ⟨a0, a1⟩, ⟨af0, af1⟩⟩ := H1c.out.p1.c2
  clear hW H1 H1b H2 HB3a HBB HSG hr1 hk1 hl1 hrd1 HAW HPA HPB HPC
  go_upto_region 13 with (at_builtin; refine wpList_append_any _ rfl (.tmp 62) (.tmp 64) 31 rfl 0 45 i0 _ 2 32 Tryd.underlying31 hi hq0 hq1 hq2 rfl (by decide) (.slice none 0 0) 0 [] rfl (World.ownsRow_nil _ _ _ _) W.heap.size A1 p.segs.length c1 css1.flatten rfl HRD1.out HON1.out (by unfold maxLen; omega) (by omega) (Nat.zero_le _) ?_; intro v1 w5 hown5 hg5 hat5; rw [Nat.zero_add, List.nil_append] at hown5; obtain ⟨Av, cv, rfl⟩ := own_slice hown5; have HO5 := Lib.hid hown5; have HG5 := Lib.hid hg5; have HA5 := Lib.hid hat5; have HT5 := Lib.hid (HT.out.grown hg5 (fun b e => by cases e)); clear hown5 hg5 hat5 tz t0 t1 tf0 tf1 az a0 a1 af0 af1; obtain ⟨tz, ⟨t0, t1⟩, ⟨tf0, tf1⟩⟩ := HT5.out.c2)
  obtain ⟨W5, hW5⟩ : ∃ W5 : World, W5 = w5.setCell ⟨w4.heap.size + 2, 1, none⟩ (.slice Av p.segs.length cv) := ⟨_, rfl⟩
  rw [← hW5]
  have hsz5 : w5.heap.size = W5.heap.size := by rw [hW5]; simp
  have hg5s := HG5.out.size
  have HE5 := Lib.hid (show ∀ k, k < w4.heap.size + 2 → W5.heap[k]? = W.heap[k]? from fun k hk => by rw [hW5]; exact (Below.heap_setCell _ ⟨w4.heap.size + 2, 1, none⟩ _ k (by show k ≠ w4.heap.size + 2; omega)).trans (HG5.out.block k (by omega) (fun e => by cases e)))
  have HB5 := Lib.hid (show Bel w.heap.size w W5 by rw [hW5]; exact ((H1c.out.bel.grown HG5.out hwW (fun k e => by cases e)).setCell (p := ⟨w4.heap.size + 2, 1, none⟩) (by show w.heap.size ≤ w4.heap.size + 2; have := H3c.out.lt; have hx := HWW.out; omega) _))
  have H2d := Lib.hid (H2c.out.keep HB5.out (by omega) fun k hk => HE5.out k (by omega))
  have HN5 := Lib.hid (show ∀ b, b < W.heap.size → (Value.slice Av p.segs.length cv).ownBlock ≠ some b from fun b hb e => by rcases HA5.out with h | h <;> rw [h] at e <;> cases e; omega)
  have HO5b := Lib.hid (own_eq (w' := W5) HO5.out fun g e => by rw [hW5]; exact Below.heap_setCell _ ⟨w4.heap.size + 2, 1, none⟩ _ g (fun h => HN5.out g (by rw [h]; exact hsW) e))
  have HT5b := Lib.hid (show Blk W5 (w4.heap.size + 2) 33 #[.bool true, .slice Av p.segs.length cv] by rw [hW5]; exact HT5.out.set_ 1 _)
  obtain ⟨css2, hl2, hk2, hr2, hrd2⟩ := RowG.css (by decide) H2d.out.g1
  have HRD2 := Lib.hid hrd2
  have HON2 := Lib.hid (flat_one (k := 2) (R := RSeg) RSeg_one hl2 hr2)
  have HR2 := Lib.hid hr2
  have HK2 := Lib.hid hk2
  have HL2 := Lib.hid hl2
  clear hW5 HT5 HO5 tz t0 t1 tf0 tf1 hr2 hk2 hl2 hrd2
  obtain ⟨tz, ⟨t0, t1⟩, ⟨tf0, tf1⟩⟩ := HT5b.out.c2
  obtain ⟨az, ⟨a0, a1⟩, ⟨af0, af1⟩⟩ := H2d.out.p1.c2
  go_upto_region 14 with (at_builtin; refine wpList_append_any _ rfl (.tmp 68) (.tmp 70) 31 rfl 0 45 i0 _ 2 32 Tryd.underlying31 hi hq0 hq1 hq2 rfl (by decide) (.slice Av p.segs.length cv) p.segs.length css1.flatten rfl HO5b.out W5.heap.size A2 q.segs.length c2 css2.flatten rfl HRD2.out HON2.out (by unfold maxLen; omega) (by omega) (Nat.zero_le _) ?_; intro v2 w6 hown6 hg6 hat6; rw [← List.length_append, hxs'] at hown6; obtain ⟨Aw, cw, rfl⟩ := own_slice hown6; have HO6 := Lib.hid hown6; have HG6 := Lib.hid hg6; have HA6 := Lib.hid hat6; have HT6 := Lib.hid (HT5b.out.grown hg6 (fun b e h => HN5.out b (by rw [h]; exact hsW) e)); clear hown6 hg6 hat6 tz t0 t1 tf0 tf1 az a0 a1 af0 af1; obtain ⟨tz, ⟨t0, t1⟩, ⟨tf0, tf1⟩⟩ := HT6.out.c2)
  obtain ⟨W6, hW6⟩ : ∃ W6 : World, W6 = w6.setCell ⟨w4.heap.size + 2, 1, none⟩ (.slice Aw xs.length cw) := ⟨_, rfl⟩
  rw [← hW6]
  have hsz6 : w6.heap.size = W6.heap.size := by rw [hW6]; simp
  have hg6s := HG6.out.size
  have HE6 := Lib.hid (show ∀ k, k < w4.heap.size + 2 → W6.heap[k]? = W5.heap[k]? from fun k hk => by rw [hW6]; exact (Below.heap_setCell _ ⟨w4.heap.size + 2, 1, none⟩ _ k (by show k ≠ w4.heap.size + 2; omega)).trans (HG6.out.block k (by omega) (fun e => HN5.out k (by omega) e.symm)))
  have HB6 := Lib.hid (show Bel w.heap.size w W6 by rw [hW6]; exact ((HB5.out.grown HG6.out HB5.out.size (fun k e => by rcases Nat.lt_or_ge k W.heap.size with h | h; exact absurd e (HN5.out k h); omega)).setCell (p := ⟨w4.heap.size + 2, 1, none⟩) (by show w.heap.size ≤ w4.heap.size + 2; have hx := HWW.out; omega) _))
  have H3d := Lib.hid (H3c.out.keep HB6.out (by omega) fun k hk => (HE6.out k hk).trans (HE5.out k hk))
  have HN6 := Lib.hid (show ∀ b, b < W.heap.size → (Value.slice Aw xs.length cw).ownBlock ≠ some b from fun b hb e => by
    rcases HA6.out with h | h
    · rw [h] at e; exact HN5.out b hb e
    · rw [h] at e; cases e; omega)
  have HO6b := Lib.hid (own_eq (w' := W6) HO6.out fun g e => by rw [hW6]; exact Below.heap_setCell _ ⟨w4.heap.size + 2, 1, none⟩ _ g (fun h => HN6.out g (by rw [h]; exact hsW) e))
  have HT6b := Lib.hid (show Blk W6 (w4.heap.size + 2) 33 #[.bool true, .slice Aw xs.length cw] by rw [hW6]; exact HT6.out.set_ 1 _)
  have HBR := Lib.hid (show BRow 2 45 RSeg (max m1 m2) { w with heap := #[] } W6 (.slice Aw xs.length cw) xs (css1 ++ css2) from ⟨by rw [List.length_append, HL1.out, HL2.out, ← hxs', List.length_append], fun i cs x h1 h2 => by
      rw [← hxs'] at h2
      rcases Nat.lt_or_ge i css1.length with hi | hi
      · rw [List.getElem?_append_left hi] at h1
        rw [List.getElem?_append_left (by rw [← HL1.out]; exact hi)] at h2
        exact RSeg_ok.keep (HR1.out i cs x h1 h2) ⟨by omega, fun b hK _ => ⟨⟨Nat.zero_le _, HN6.out b (by have : b < w2.heap.size := hK; omega)⟩, (HE6.out b (by have : b < w2.heap.size := hK; omega)).trans (HE5.out b (by have : b < w2.heap.size := hK; omega))⟩⟩ (Nat.le_max_left _ _)
      · rw [List.getElem?_append_right hi] at h1
        rw [List.getElem?_append_right (by rw [← HL1.out]; exact hi), ← HL1.out] at h2
        exact RSeg_ok.keep (HR2.out _ cs x h1 h2) ⟨by omega, fun b hK _ => ⟨⟨Nat.zero_le _, HN6.out b (by have : b < w3.heap.size := hK; omega)⟩, HE6.out b (by have : b < w3.heap.size := hK; omega)⟩⟩ (Nat.le_max_right _ _),
    fun c hc => (List.mem_append.1 hc).elim (HK1.out c) (HK2.out c), by rw [List.flatten_append]; exact HO6b.out, Nat.zero_le _⟩)
  obtain ⟨A', c', hv, hrow⟩ := HBR.out.done RSeg_ok
  have HSM := Lib.hid (fun p' (hp' : p' = (⟨true, xs⟩ : PathT)) => same_one ⟨true, xs⟩ A3 A' c3 c' W6 H3d.out.g1 hrow)
  rw [hv] at HT6b
  have HSM2 := Lib.hid (HSM.out _ rfl)
  rw [hv]
  clear hW6 HT6 HO6 hrow HSM tz t0 t1 tf0 tf1 HBR
  obtain ⟨tz, ⟨t0, t1⟩, ⟨tf0, tf1⟩⟩ := HT6b.out.c2
  obtain ⟨xz, ⟨x0, x1⟩, ⟨xf0, xf1⟩⟩ := H3d.out.p1.c2
  obtain ⟨fz, ⟨f0, f1⟩, ⟨ff0, ff1⟩⟩ := H3d.out.f1.c2
  go_cut [90] (fun v wx => (∃ bl, v = .bool bl) ∧ W6 = wx)
  case first =>
    go_wp2
    all_goals
      go_meet
      case rel => exact ⟨⟨_, rfl⟩, rfl⟩
  case rest =>
  obtain ⟨⟨bl, rfl⟩, rfl⟩ := hcut
  cases bl
  · go_wp2_with (go_at_call 10; refine HSM2.out.mono ?_; rintro e w9 ⟨rfl, hb⟩; have HB9 := Lib.hid (HB6.out.next hb); clear hb)
    go_ret
    exact ⟨rfl, HB9.out⟩
  · go_wp2_with (go_at_call 10; refine HSM2.out.mono ?_; rintro e w9 ⟨rfl, hb⟩; have HB9 := Lib.hid (HB6.out.next hb); clear hb)
    go_ret
    exact ⟨rfl, HB9.out⟩

theorem parse_len {l : List UInt8} {p : PathT} (h : parseT true l = .ok p) : p.segs.length ≤ l.length := by
  obtain ⟨r, hr, h2⟩ := parse_lex h
  obtain ⟨h3, -, -, h4⟩ := parse2_ok h2
  unfold parse1 at h3
  rw [h4, if_pos rfl] at h3
  have h5 := pathF_len (E := (l.length : Nat)) (P := orS true (l.length : Nat) 34) (d := 0) ⟨r, 0, 0⟩
  rw [h3] at h5
  have ho := lex_order l
  rw [hr] at ho
  have h6 := ordL_len r 0 ho.1
  simp only at h5
  omega
theorem manyLaw_any (s t : ByteArray) (w : World) (_hs : s.size ≤ maxLen) (_ht : t.size ≤ maxLen) :
    Calls Tryd.prog 5 #[.string s, .string t] w fun e w' => e = .returned (.bool true) ∧ Bel w.heap.size w w' := by
  by_cases hl : s.size ≤ 200 ∧ t.size ≤ 200
  · obtain ⟨hs, ht⟩ := hl
    cases hp : parseT true s.data.toList with
    | error x => exact many_err1 s t w hs ht x.1 x.2 hp
    | ok p =>
      cases hq : parseT true t.data.toList with
      | error x => exact many_err2 s t w hs ht p hp x.1 x.2 hq
      | ok q =>
        obtain ⟨t1, he, -, hA, hB⟩ := many_law hp hq (by rw [len_toList, len_toList]; omega)
        have htl : t.size = t1.length + 1 := by rw [← len_toList, he, List.length_cons]
        by_cases h1 : t1 = []
        · refine many_one s t w hs p q hp hq (by rw [htl, h1]; rfl) (s ++ ⟨#[32]⟩) rfl ?_
          have := hA h1
          rw [len_toList] at this
          rw [app_list]
          exact this
        · have hpl := parse_len hp
          have hql := parse_len hq
          rw [len_toList] at hpl hql
          have h1l : 0 < t1.length := List.length_pos_iff.2 h1
          refine many_two s t w hs ht p q hp hq (by omega) (by omega) (by omega) _ rfl (s ++ ⟨#[32]⟩ ++ t.extract 1 t.size) rfl ?_
          rw [app_list, app_list, ext_drop, he]
          show parseT true (s.data.toList ++ [32] ++ t1) = _
          rw [List.append_assoc]
          exact hB h1
  · exact many_long s t w hl

end Go.Proofs.YtmopeandckmgcaaDoor
