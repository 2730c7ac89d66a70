/- ref10: memory while digits are laid down. -/
import Derived.Test.YtdfamphnilelnaaDoorNg0
namespace Go.Proofs.YtdfamphnilelnaaDoor
open Go.RowKit

theorem info_int : (Tryd.prog.info? 3).map (fun i => (i.zero, i.size, i.bytes)) = some (some (.int .i64 0), 1, 8) := by kernel_rfl
theorem ownsRow_set {w : World} {base : Nat} {e : TypeId} {size n : Nat} {v : Value} {xs : List Value} (h : w.ownsRow base e size v n xs) {p : Addr} (hp : p.block < base) (u : Value) : (w.setCell p u).ownsRow base e size v n xs := by
  refine ⟨h.1, ?_⟩
  rcases h.2 with h | ⟨g, cap, cur, h1, h2, h3, h4⟩
  · exact .inl h
  · exact .inr ⟨g, cap, cur, h1, h2, (Below.heap_setCell w p u g (by omega)).trans h3, h4⟩
/-- What lies in memory while Read goes on: the number so far, the result's place. -/
def XS (w wr : World) (m : Bool) (ds : List Int) (pt ex : Int) : Prop :=
  ∃ v, Blk wr (w.heap.size + 1) 47 #[.bool m, v, .int .i64 pt, .int .i64 ex] ∧ Blk wr w.heap.size 47 #[.bool false, .slice none 0 0, .int .i64 0, .int .i64 0] ∧ wr.ownsRow (w.heap.size + 2) 3 1 v ds.length (ds.map (Value.int .i64)) ∧ Bel w.heap.size w wr
theorem XS.drewN {w wr : World} {m : Bool} {ds : List Int} {pt ex : Int} (h : XS w wr m ds pt ex) (n : Nat) : XS w (wr.drewN n) m ds pt ex := by
  obtain ⟨v, a, b, c, d⟩ := h; exact ⟨v, a, b, c, d.drewN n⟩
theorem XS.drew {w wr : World} {m : Bool} {ds : List Int} {pt ex : Int} (h : XS w wr m ds pt ex) : XS w wr.drew m ds pt ex := by
  obtain ⟨v, a, b, c, d⟩ := h; exact ⟨v, a, b, c.drew, d.drew⟩
theorem XS.set2 {w wr : World} {m : Bool} {ds : List Int} {pt ex : Int} (h : XS w wr m ds pt ex) (p : Int) : XS w (wr.setCell ⟨w.heap.size + 1, 2, none⟩ (.int .i64 p)) m ds p ex := by
  obtain ⟨v, a, b, c, d⟩ := h
  exact ⟨v, a.set_ 2 _, b.far (by simp) _, ownsRow_set c (by simp) _, d.setCell (by simp) _⟩
theorem XS.set3 {w wr : World} {m : Bool} {ds : List Int} {pt ex : Int} (h : XS w wr m ds pt ex) (p : Int) : XS w (wr.setCell ⟨w.heap.size + 1, 3, none⟩ (.int .i64 p)) m ds pt p := by
  obtain ⟨v, a, b, c, d⟩ := h
  exact ⟨v, a.set_ 3 _, b.far (by simp) _, ownsRow_set c (by simp) _, d.setCell (by simp) _⟩
/-- A digit more. -/
theorem XS.app {w wr w2 : World} {m : Bool} {ds : List Int} {pt ex : Int} {v v' : Value} {x : Int} (hx : Blk wr (w.heap.size + 1) 47 #[.bool m, v, .int .i64 pt, .int .i64 ex]) (hr : Blk wr w.heap.size 47 #[.bool false, .slice none 0 0, .int .i64 0, .int .i64 0]) (ho : wr.ownsRow (w.heap.size + 2) 3 1 v ds.length (ds.map (Value.int .i64))) (hb : Bel w.heap.size w wr)
    (hg : wr.grownBy w2 v.ownBlock) (ho2 : w2.ownsRow (w.heap.size + 2) 3 1 v' (ds.length + 1) (ds.map (Value.int .i64) ++ [.int .i64 x])) :
    Blk w2 (w.heap.size + 1) 47 #[.bool m, v, .int .i64 pt, .int .i64 ex] ∧ Blk w2 w.heap.size 47 #[.bool false, .slice none 0 0, .int .i64 0, .int .i64 0] ∧ XS w (w2.setCell ⟨w.heap.size + 1, 1, none⟩ v') m (ds ++ [x]) pt ex := by
  have hne : ∀ k, v.ownBlock = some k → w.heap.size + 2 ≤ k := fun k hk => (World.ownsRow.lt ho k hk).1
  have hB := grown_bel (B := w.heap.size + 2) hg (by have := hx.lt; omega) hne
  have a := hx.bel hB (by omega)
  have b := hr.bel hB (by omega)
  refine ⟨a, b, v', a.set_ 1 _, b.far (by simp) _, ownsRow_set (by simpa using ho2) (by simp) _, (hb.trans (hB.mono (by omega))).setCell (by simp) _⟩
theorem XS.app1 {w wr w2 : World} {m : Bool} {ds : List Int} {pt ex : Int} {v v' : Value} {x : Int} {o : Obj} (hx : Blk wr (w.heap.size + 1) 47 #[.bool m, v, .int .i64 pt, .int .i64 ex]) (hr : Blk wr w.heap.size 47 #[.bool false, .slice none 0 0, .int .i64 0, .int .i64 0]) (ho : wr.ownsRow (w.heap.size + 2) 3 1 v ds.length (ds.map (Value.int .i64))) (hb : Bel w.heap.size w wr)
    (hg : (wr.alloc o).drew.grownBy w2 v.ownBlock) (ho2 : w2.ownsRow (w.heap.size + 2) 3 1 v' (ds.length + 1) (ds.map (Value.int .i64) ++ [.int .i64 x])) :
    Blk w2 (w.heap.size + 1) 47 #[.bool m, v, .int .i64 pt, .int .i64 ex] ∧ Blk w2 w.heap.size 47 #[.bool false, .slice none 0 0, .int .i64 0, .int .i64 0] ∧ XS w (w2.setCell ⟨w.heap.size + 1, 1, none⟩ v') m (ds ++ [x]) pt ex :=
  XS.app (wr := (wr.alloc o).drew) (show Blk (wr.alloc o).drew _ _ _ from hx.alloc o) (show Blk (wr.alloc o).drew _ _ _ from hr.alloc o) (World.ownsRow.drew (ho.alloc o)) ((hb.alloc hb.size o).drew) hg ho2
theorem XS.start (w : World) (m : Bool) : XS w ((w.alloc (.cells #[.bool false, .slice none 0 0, .int .i64 0, .int .i64 0] 47)).alloc (.cells #[.bool m, .slice none 0 0, .int .i64 0, .int .i64 0] 47)) m [] 0 0 :=
  ⟨.slice none 0 0, Blk.new1 _ _ _ _, (Blk.new _ _ _).alloc _, World.ownsRow_nil _ _ _ _, ((Bel.refl _ _).alloc (Nat.le_refl _) _).alloc (by simp) _⟩
/-- What Read answers. -/
def RdP (w : World) (o : Option NP) (e : Ending) (w' : World) : Prop :=
  match o with
  | none => e = .returned (.tuple #[.agg #[.bool false, .slice none 0 0, .int .i64 0, .int .i64 0], .bool false]) ∧ Bel w.heap.size w w'
  | some x => ∃ A c, e = .returned (.tuple #[numR x.m A (dI (x.w ++ x.f)) c x.w.length (expR x.e), .bool true]) ∧ Rd w' A ((dI (x.w ++ x.f)).map (Value.int .i64)) ∧ Bel w.heap.size w w'
theorem RdP.no {w : World} {o : Option NP} {w' : World} (h : o = none) (hb : Bel w.heap.size w w') : RdP w o (.returned (.tuple #[.agg #[.bool false, .slice none 0 0, .int .i64 0, .int .i64 0], .bool false])) w' := by subst h; exact ⟨rfl, hb⟩
theorem RdP.yes {w : World} {o : Option NP} {w' : World} {m : Bool} {W F e : L8} {v : Value} {ex : Int} (h : o = some ⟨m, W, F, e⟩) (he : ex = expR e) (ho : w'.ownsRow (w.heap.size + 2) 3 1 v (dI (W ++ F)).length ((dI (W ++ F)).map (Value.int .i64))) (hb : Bel w.heap.size w w') :
    RdP w o (.returned (.tuple #[.agg #[.bool m, v, .int .i64 W.length, .int .i64 ex], .bool true])) w' := by
  subst h; subst he
  obtain ⟨A, c, rfl, _, hr, _⟩ := Rd.of_own ho
  rw [List.length_map]
  exact ⟨A, c, rfl, hr, hb⟩
/-- The result lies whole. -/
def DoneW (w W9 : World) (m : Bool) (v : Value) (pt ex : Int) (ds : List Int) (dl : Nat) : Prop :=
  w.heap.size < W9.heap.size ∧ (W9.cell? ⟨w.heap.size, 0, none⟩ = some (.bool m) ∧ W9.cell? ⟨w.heap.size, 1, none⟩ = some v ∧ W9.cell? ⟨w.heap.size, 2, none⟩ = some (.int .i64 pt) ∧ W9.cell? ⟨w.heap.size, 3, none⟩ = some (.int .i64 ex)) ∧
      W9.ownsRow (w.heap.size + 2) 3 1 v dl (ds.map (Value.int .i64)) ∧ Bel w.heap.size w W9
theorem XS.done {w W : World} {m : Bool} {ds : List Int} {dl : Nat} {v : Value} {pt ex : Int} (hr : Blk W w.heap.size 47 #[.bool false, .slice none 0 0, .int .i64 0, .int .i64 0]) (ho : W.ownsRow (w.heap.size + 2) 3 1 v dl (ds.map (Value.int .i64))) (hb : Bel w.heap.size w W) :
    DoneW w ((((W.setCell ⟨w.heap.size, 0, none⟩ (.bool m)).setCell ⟨w.heap.size, 1, none⟩ v).setCell ⟨w.heap.size, 2, none⟩ (.int .i64 pt)).setCell ⟨w.heap.size, 3, none⟩ (.int .i64 ex)) m v pt ex ds dl := by
  have h : Blk ((((W.setCell ⟨w.heap.size, 0, none⟩ (.bool m)).setCell ⟨w.heap.size, 1, none⟩ v).setCell ⟨w.heap.size, 2, none⟩ (.int .i64 pt)).setCell ⟨w.heap.size, 3, none⟩ (.int .i64 ex)) w.heap.size 47 #[.bool m, v, .int .i64 pt, .int .i64 ex] :=
    (((hr.set_ 0 _).set_ 1 _).set_ 2 _).set_ 3 _
  obtain ⟨a, b, _⟩ := h.four
  exact ⟨a, b, ownsRow_set (ownsRow_set (ownsRow_set (ownsRow_set ho (by simp) _) (by simp) _) (by simp) _) (by simp) _, (((hb.setCell (Nat.le_refl _) _).setCell (Nat.le_refl _) _).setCell (Nat.le_refl _) _).setCell (Nat.le_refl _) _⟩
theorem XS.done1 {w W : World} {m : Bool} {ds : List Int} {dl : Nat} {v : Value} {pt ex : Int} (hr : Blk W w.heap.size 47 #[.bool false, .slice none 0 0, .int .i64 0, .int .i64 0]) (ho : W.ownsRow (w.heap.size + 2) 3 1 v dl (ds.map (Value.int .i64))) (hb : Bel w.heap.size w W) :
    ∃ W9, W9 = (((W.setCell ⟨w.heap.size, 0, none⟩ (.bool m)).setCell ⟨w.heap.size, 1, none⟩ v).setCell ⟨w.heap.size, 2, none⟩ (.int .i64 pt)).setCell ⟨w.heap.size, 3, none⟩ (.int .i64 ex) ∧ DoneW w W9 m v pt ex ds dl := ⟨_, rfl, XS.done hr ho hb⟩
theorem RdP.yes1 {w : World} {o : Option NP} {w' : World} {m : Bool} {W F e : L8} {v : Value} {ex pt : Int} {ds : List Int} {dl : Nat} (h1 : dI (W ++ F) = ds ∧ (W.length : Int) = pt) (h2 : ds.length = dl) (h : o = some ⟨m, W, F, e⟩) (he : ex = expR e) (ho : w'.ownsRow (w.heap.size + 2) 3 1 v dl (ds.map (Value.int .i64))) (hb : Bel w.heap.size w w') :
    RdP w o (.returned (.tuple #[.agg #[.bool m, v, .int .i64 pt, .int .i64 ex], .bool true])) w' := by
  obtain ⟨rfl, rfl⟩ := h1; subst h2
  exact RdP.yes h he ho hb
theorem dI_snoc {s : ByteArray} {a k : Nat} (h : a + k < s.size) : dI ((dr s a).take (k + 1)) = dI ((dr s a).take k) ++ [(s[a + k].toNat : Int) - 48] := by
  have e : (dr s a).take (k + 1) = (dr s a).take k ++ [s[a + k]] := by
    unfold dr
    rw [List.take_succ_eq_append_getElem (by simp; omega)]; simp; rfl
  rw [e]; simp [dI]
theorem wrap_dig (c : UInt8) : IntKind.i64.wrap (IntKind.i64.wrap (c.toNat : Int) - 48) = (c.toNat : Int) - 48 := by
  have := c.toNat_lt
  rw [IntWalk.i64_in (c.toNat : Int) (by omega), IntWalk.i64_in _ (by omega)]
theorem dr_len (s : ByteArray) (a : Nat) : (dr s a).length = s.size - a := by unfold dr; simp
theorem digN_drop : ∀ (l : L8) (k : Nat), k < digN l → 0 < digN (l.drop k)
  | l, 0, h => h
  | [], k + 1, h => by simp [digN] at h
  | c :: r, k + 1, h => by
    rw [digN] at h; split at h
    · rw [List.drop_succ_cons]; exact digN_drop r k (by omega)
    · omega
theorem dig_in {s : ByteArray} {a k : Nat} (h : a + k < s.size) (hk : k < digN (dr s a)) : 48 ≤ (s[a + k].toNat : Int) ∧ (s[a + k].toNat : Int) ≤ 57 := by
  have h1 := digN_drop _ _ hk
  rw [dr_dr, dr, drop_cons s _ h, digN] at h1
  split at h1
  · rename_i hc; exact dig_bd hc
  · omega
theorem dr_ne {s : ByteArray} {a : Nat} (h : a < s.size) : dr s a ≠ [] := by
  intro e; have := dr_len s a; rw [e] at this; simp at this; omega

end Go.Proofs.YtdfamphnilelnaaDoor
