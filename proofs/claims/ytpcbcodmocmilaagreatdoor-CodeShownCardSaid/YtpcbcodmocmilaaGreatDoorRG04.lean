/- RG04: Ud, Fl, Uq, Qc joined. -/
import Derived.Test.YtpcbcodmocmilaaGreatDoorRG03
import Derived.Test.YtpcbcodmocmilaaGreatDoorRA0
import Derived.Test.YtpcbcodmocmilaaGreatDoorRQb
namespace Go.Proofs.YtpcbcodmocmilaaGreatDoor
open Go.RowKit
/- qlex: QlexOrder's law on lists; plain. -/
section

/-- QlexOrder's loop. -/
def ordL (w : List UInt8) : Nat → List TokD → Bool
  | _, [] => true
  | from_, x :: r =>
    if x.at_ < from_ ∨ w.length ≤ x.at_ ∨ (x.gap = true ∧ x.at_ = from_) then false
    else if x.kind = 1 ∨ x.kind = 2 then
      (if x.s.length = 0 ∨ w.length - x.at_ < x.s.length ∨ (w.drop x.at_).take x.s.length ≠ x.s then false else ordL w (x.at_ + x.s.length) r)
    else ordL w (x.at_ + 1) r
theorem bkN_le : ∀ l : List UInt8, bkN l ≤ l.length
  | [] => by simp [bkN]
  | c :: r => by have := bkN_le r; unfold bkN; split <;> simp <;> omega
theorem bkN_lt (u : List UInt8) (h : u.drop (bkN u) ≠ []) : bkN u < u.length := by
  have := bkN_le u
  rcases Nat.lt_or_ge (bkN u) u.length with h1 | h1
  · exact h1
  · exact absurd (List.drop_eq_nil_of_le h1) h
/-- One round of Lex. -/
theorem lexF_step (f a : Nat) (u : List UInt8) (h : u ≠ []) : lexF (f + 1) a u =
    if 0 < bkN u ∧ (a = 0 ∨ u.drop (bkN u) = []) then .error (3, a)
    else match tokT (u.drop (bkN u)) with
      | .error e => .error (e, a + bkN u)
      | .ok (k, t, v, n) =>
        match lexF f (a + bkN u + n) ((u.drop (bkN u)).drop n) with
        | .error e => .error e
        | .ok r => .ok (⟨k, t, v, a + bkN u, decide (0 < bkN u)⟩ :: r) := by
  rw [lexF, if_neg h]
  try rfl
theorem lexF_nil (f a : Nat) : lexF f a [] = .ok [] := by cases f <;> simp [lexF]
theorem rest_ne (u : List UInt8) (a : Nat) (h : u ≠ []) (hc : ¬ (0 < bkN u ∧ (a = 0 ∨ u.drop (bkN u) = []))) : u.drop (bkN u) ≠ [] := by
  rcases Nat.eq_zero_or_pos (bkN u) with h0 | h0
  · rw [h0]; exact h
  · exact fun e => hc ⟨h0, .inr e⟩
theorem lexF_ord (w : List UInt8) : ∀ (f a from_ : Nat) (toks : List TokD), from_ ≤ a → lexF f a (w.drop a) = .ok toks → ordL w from_ toks = true
  | 0, _, _, toks, _, h => by simp [lexF] at h; subst h; rfl
  | f + 1, a, from_, toks, hfa, h => by
    by_cases hu : w.drop a = []
    · rw [hu, lexF_nil] at h; cases h; rfl
    · rw [lexF_step f a _ hu] at h
      split at h
      · cases h
      · rename_i hc
        have hne := rest_ne _ a hu hc
        have hlt := bkN_lt _ hne
        rw [List.length_drop] at hlt
        cases ht : tokT ((w.drop a).drop (bkN (w.drop a))) with
        | error e => rw [ht] at h; cases h
        | ok x =>
          obtain ⟨k, t, v, n⟩ := x
          rw [ht] at h
          simp only at h
          have hok := tokT_ok _ k t v n ht
          cases hr : lexF f (a + bkN (w.drop a) + n) (((w.drop a).drop (bkN (w.drop a))).drop n) with
          | error e => rw [hr] at h; cases h
          | ok r =>
            rw [hr] at h
            simp only [Except.ok.injEq] at h
            subst h
            obtain ⟨hn, hl, hs⟩ := hok
            rw [List.drop_drop, List.drop_drop, ← Nat.add_assoc] at hr
            rw [List.drop_drop] at hl hs
            rw [List.length_drop] at hl
            rw [ordL, if_neg (by simp only [decide_eq_true_eq]; omega)]
            by_cases hk : k = 1 ∨ k = 2
            · rw [if_pos hk]
              obtain ⟨h1, h2⟩ := hs hk
              rw [if_neg (by
                simp only [h2]
                intro hh
                rcases hh with hh | hh | hh
                · omega
                · omega
                · exact hh h1.symm), h2]
              exact lexF_ord w f _ _ r (Nat.le_refl _) hr
            · rw [if_neg hk]
              exact lexF_ord w f (a + bkN (w.drop a) + n) _ r (by show a + bkN (w.drop a) + 1 ≤ _; omega) hr
theorem lexF_err (w : List UInt8) : ∀ (f a : Nat) (e : Int × Nat), a ≤ w.length → lexF f a (w.drop a) = .error e → e.2 ≤ w.length
  | 0, _, e, _, h => by simp [lexF] at h
  | f + 1, a, e, hal, h => by
    by_cases hu : w.drop a = []
    · rw [hu, lexF_nil] at h; cases h
    · rw [lexF_step f a _ hu] at h
      have hb := bkN_le (w.drop a)
      rw [List.length_drop] at hb
      split at h
      · cases h; exact hal
      · cases ht : tokT ((w.drop a).drop (bkN (w.drop a))) with
        | error e' => rw [ht] at h; cases h; show a + bkN (w.drop a) ≤ _; omega
        | ok x =>
          obtain ⟨k, t, v, n⟩ := x
          rw [ht] at h
          simp only at h
          obtain ⟨hn, hl, hs⟩ := tokT_ok _ k t v n ht
          cases hr : lexF f (a + bkN (w.drop a) + n) (((w.drop a).drop (bkN (w.drop a))).drop n) with
          | error e' =>
            rw [hr] at h
            simp only [Except.error.injEq] at h
            subst h
            rw [List.drop_drop, List.drop_drop, ← Nat.add_assoc] at hr
            rw [List.drop_drop, List.length_drop] at hl
            exact lexF_err w f (a + bkN (w.drop a) + n) _ (by omega) hr
          | ok r => rw [hr] at h; cases h
/-- QlexOrder. -/
theorem lex_order (w : List UInt8) : match lexL w with | .error e => e.2 ≤ w.length | .ok r => ordL w 0 r = true ∧ r ≠ [] := by
  unfold lexL
  split
  · rename_i e he
    split at he
    · cases he; simp
    · split at he
      · rename_i e' hf
        cases he
        have := lexF_err w (w.length + 1) 0 e (by omega) (by simpa using hf)
        exact this
      · cases he; simp
      · cases he
  · rename_i r he
    split at he
    · cases he
    · split at he
      · cases he
      · cases he
      · rename_i hne hf
        cases he
        exact ⟨lexF_ord w (w.length + 1) 0 0 _ (by omega) (by simpa using hf), fun e => hne e⟩

end
/- Slices of structs as flat rows; no word of a dump. -/
section
open Go.RowKit

theorem flat_len {α : Type} (f : α → List Value) (k : Nat) (hk : ∀ x, (f x).length = k) : ∀ l : List α, (l.flatMap f).length = l.length * k
  | [] => by simp
  | x :: l => by rw [List.flatMap_cons, List.length_append, hk, flat_len f k hk l, List.length_cons, Nat.add_mul]; omega
theorem flat_get {α : Type} (f : α → List Value) (k : Nat) (hk : ∀ x, (f x).length = k) : ∀ (l : List α) (i j : Nat), j < k → (l.flatMap f)[i * k + j]? = (l[i]?).bind (fun x => (f x)[j]?)
  | [], i, j, _ => by simp
  | x :: l, 0, j, hj => by
    rw [List.flatMap_cons, List.getElem?_append_left (by rw [hk]; omega)]; simp
  | x :: l, i + 1, j, hj => by
    rw [List.flatMap_cons, List.getElem?_append_right (by rw [hk, Nat.add_mul]; omega), hk, show (i + 1) * k + j - k = i * k + j by rw [Nat.add_mul]; omega, flat_get f k hk l i j hj]
    simp
theorem add_lit (b off n : Nat) : (⟨b, off, none⟩ : Addr).add n = ⟨b, off + n, none⟩ := by
  unfold Addr.add; by_cases h : n = 0 <;> simp [h]
/-- From cells of elements to a flat reading. -/
theorem reads_flat {α : Type} (f : α → List Value) (k : Nat) (hk : ∀ x, (f x).length = k) (hk0 : 0 < k) (w : World) (A : Option Addr) (l : List α)
    (h : l = [] ∨ ∃ b off, A = some ⟨b, off, none⟩ ∧ b < w.heap.size ∧ ∀ (i : Nat) (x : α), l[i]? = some x → ∀ j u, (f x)[j]? = some u → w.cell? ⟨b, off + i * k + j, none⟩ = some u) :
    Reads w w.heap.size k A l.length (l.flatMap f) := by
  refine ⟨flat_len f k hk l, fun hn => ?_⟩
  obtain ⟨b, off, rfl, hb, hc⟩ := h.resolve_left (by intro e; rw [e] at hn; simp at hn)
  refine ⟨_, rfl, hb, fun j u hu => ?_⟩
  have hj : j % k < k := Nat.mod_lt _ hk0
  have hd : j / k * k + j % k = j := Nat.div_add_mod' j k
  rw [← hd, flat_get f k hk l (j / k) (j % k) hj] at hu
  obtain ⟨x, hx, hu2⟩ := Option.bind_eq_some_iff.1 hu
  rw [add_lit, ← hd, ← Nat.add_assoc]
  exact hc (j / k) x hx (j % k) u hu2
/-- From an owned row to cells of elements. -/
theorem own_flat {α : Type} (f : α → List Value) (k : Nat) (hk : ∀ x, (f x).length = k) (w : World) (base n : Nat) (e : TypeId) (v : Value) (l : List α) (h : w.ownsRow base e k v n (l.flatMap f)) (hn : n = l.length) :
    ∃ A cap, v = .slice A l.length cap ∧ l.length ≤ cap ∧ (l = [] ∨ ∃ b off, A = some ⟨b, off, none⟩ ∧ base ≤ b ∧ b < w.heap.size ∧ ∀ (i : Nat) (x : α), l[i]? = some x → ∀ j u, j < k → (f x)[j]? = some u → w.cell? ⟨b, off + i * k + j, none⟩ = some u) := by
  subst hn
  have h2 := h.2
  rcases h2 with ⟨rfl, h0⟩ | ⟨g, cap, cur, rfl, hbs, hg, hle, _⟩
  · exact ⟨none, 0, by rw [h0], by omega, .inl (List.eq_nil_of_length_eq_zero h0)⟩
  · refine ⟨some ⟨g, 0, none⟩, cap, rfl, hle, .inr ⟨g, 0, rfl, hbs, (Array.getElem?_eq_some_iff.1 hg).1, fun i x hx j u hj hu => ?_⟩⟩
    have := h.cells (g := g) rfl (i * k + j) u (by rw [flat_get f k hk l i j hj, hx]; exact hu)
    rw [add_lit] at this
    rw [show 0 + i * k + j = 0 + (i * k + j) by omega]; exact this

theorem Blk.new1 (w : World) (o : Obj) (t : TypeId) (cs : Array Value) : Blk ((w.alloc o).alloc (.cells cs t)) (w.heap.size + 1) t cs := by
  have := Blk.new (w.alloc o) t cs; simpa using this
/-- A row just laid. -/
theorem reads_new (w : World) (e : TypeId) (k m : Nat) (xs : List Value) (h : xs.length = m * k) : Reads (w.alloc (.cells xs.toArray e)) (w.heap.size + 1) k (some ⟨w.heap.size, 0, none⟩) m xs :=
  ⟨h, fun _ => ⟨_, rfl, by show w.heap.size < _; omega, fun j u hu => by
    rw [add_lit, (Blk.new w e xs.toArray).cell]; simpa using hu⟩⟩

end
/- Tokens in memory, Lex's laws step by step (words of the dump: types alone). -/
section
open Go.RowKit
def sgC : List Value := signsL.map fun l => .string (bs l)
def sgA : Array Value := sgC.toArray
theorem sgA_get (i : Nat) (h : i < 21) : sgA[i]? = some (.string (bs (signsL[i]'(by rw [sg_len]; exact h)))) := by
  unfold sgA sgC
  rw [List.getElem?_toArray, List.getElem?_map, List.getElem?_eq_getElem (by rw [sg_len]; exact h)]; rfl
theorem u8_ne {c : UInt8} {n : Nat} (h : ¬ c = UInt8.ofNat n) (hn : n < 256) : ((c.toNat : Int) == (n : Int)) = false := by
  rw [beq_eq_false_iff_ne]; intro e; apply h; rw [← UInt8.toNat_inj]; simp; omega
theorem bel_set5 {w w2 : World} {u0 u1 u2 u3 u4 : Value} {o : Obj} (h : Bel (w.alloc o).heap.size (w.alloc o) w2) :
    Bel w.heap.size w (((((w2.setCell ⟨w.heap.size, 0, none⟩ u0).setCell ⟨w.heap.size, 1, none⟩ u1).setCell ⟨w.heap.size, 2, none⟩ u2).setCell ⟨w.heap.size, 3, none⟩ u3).setCell ⟨w.heap.size, 4, none⟩ u4) := by
  have h1 : Bel w.heap.size w w2 := ((Bel.refl w.heap.size w).alloc (Nat.le_refl _) _).trans (h.mono (show w.heap.size ≤ _ by simp))
  exact ((((h1.setCell (Nat.le_refl _) _).setCell (Nat.le_refl _) _).setCell (Nat.le_refl _) _).setCell (Nat.le_refl _) _).setCell (Nat.le_refl _) _
theorem bel_lit {w : World} {o : Obj} : Bel w.heap.size w (w.alloc o) := (Bel.refl w.heap.size w).alloc (Nat.le_refl _) _
theorem bel_lit2 {w : World} {o o2 : Obj} : Bel w.heap.size w ((w.alloc o).alloc o2) := bel_lit.alloc (by simp) _
theorem Blk.two {w : World} {g : Nat} {t : TypeId} {a b : Value} (h : Blk w g t #[a, b]) : g < w.heap.size ∧ (w.cell? ⟨g, 0, none⟩ = some a ∧ w.cell? ⟨g, 1, none⟩ = some b) ∧ w.frozen? ⟨g, 0, none⟩ = false ∧ w.frozen? ⟨g, 1, none⟩ = false :=
  ⟨h.lt, ⟨h.cell 0, h.cell 1⟩, h.frozen 0, h.frozen 1⟩
def tokC (x : TokD) : List Value := [.int .i64 x.kind, .string (bs x.s), .int .i64 x.n, .int .i64 (x.at_ : Nat), .bool x.gap]
theorem tokC_len (x : TokD) : (tokC x).length = 5 := rfl
theorem info_tok : (Tryz.prog.info? 92).map (fun i => (i.zero, i.size, i.bytes)) = some (some (.agg #[.int .i64 0, .string ⟨#[]⟩, .int .i64 0, .int .i64 0, .bool false]), 5, 48) := by kernel_rfl
/-- The tokens so far, the fault's cell. -/
def LX (w wr : World) (v : Value) (toks : List TokD) : Prop :=
  Blk wr w.heap.size 31 #[.int .i64 0, .int .i64 0] ∧ wr.ownsRow (w.heap.size + 1) 92 5 v toks.length (toks.flatMap tokC) ∧ Bel w.heap.size w wr ∧ w.heap.size < wr.heap.size
theorem LX.start (w : World) : LX w (w.alloc (.cells #[.int .i64 0, .int .i64 0] 31)) (.slice none 0 0) [] :=
  ⟨Blk.new _ _ _, World.ownsRow_nil _ _ _ _, (Bel.refl _ _).alloc (Nat.le_refl _) _, by simp⟩
theorem LX.bel {w wr w2 : World} {v : Value} {toks : List TokD} (h : LX w wr v toks) (hb : Bel wr.heap.size wr w2) : LX w w2 v toks :=
  ⟨h.1.bel hb h.1.lt, ownsRow_bel h.2.1 hb (Nat.le_refl _), h.2.2.1.next hb, Nat.lt_of_lt_of_le h.2.2.2 hb.size⟩
theorem LX.grown {w wr w2 : World} {v v' : Value} {toks : List TokD} {x : TokD} (h : LX w wr v toks) (h1 : w2.ownsRow (w.heap.size + 1) 92 5 v' (toks.length + 1) (toks.flatMap tokC ++ tokC x)) (h2 : wr.grownBy w2 v.ownBlock) : LX w w2 v' (toks ++ [x]) := by
  have hk : ∀ k, v.ownBlock = some k → w.heap.size + 1 ≤ k := fun k hk => (h.2.1.lt k hk).1
  have hb : Bel (w.heap.size + 1) wr w2 := grown_bel h2 h.2.2.2 hk
  refine ⟨h.1.bel hb (by omega), ?_, h.2.2.1.trans (hb.mono (by omega)), Nat.lt_of_lt_of_le h.2.2.2 hb.size⟩
  rw [List.length_append, List.flatMap_append, List.length_singleton]
  simpa using h1
theorem LX.store {w wr : World} {v : Value} {toks : List TokD} (h : LX w wr v toks) (a b : Value) : ((wr.setCell ⟨w.heap.size, 0, none⟩ a).setCell ⟨w.heap.size, 1, none⟩ b).ownsRow (w.heap.size + 1) 92 5 v toks.length (toks.flatMap tokC) := by
  have key : ∀ k, w.heap.size < k → ((wr.setCell ⟨w.heap.size, 0, none⟩ a).setCell ⟨w.heap.size, 1, none⟩ b).heap[k]? = wr.heap[k]? := fun k hk =>
    (Below.heap_setCell _ ⟨w.heap.size, 1, none⟩ _ k (by show k ≠ w.heap.size; omega)).trans (Below.heap_setCell _ ⟨w.heap.size, 0, none⟩ _ k (by show k ≠ w.heap.size; omega))
  refine ⟨h.2.1.1, ?_⟩
  rcases h.2.1.2 with h' | ⟨g, cap, cur, h1, h2, h3, h4⟩
  · exact .inl h'
  · exact .inr ⟨g, cap, cur, h1, h2, (key g (by omega)).trans h3, h4⟩
theorem LX.stored {w wr : World} {v : Value} {toks : List TokD} (h : LX w wr v toks) (a b : Value) : Bel w.heap.size w ((wr.setCell ⟨w.heap.size, 0, none⟩ a).setCell ⟨w.heap.size, 1, none⟩ b) :=
  (h.2.2.1.setCell (Nat.le_refl _) _).setCell (Nat.le_refl _) _
/-- With tokens ahead. -/
def pref (toks : List TokD) (r : Except (Int × Nat) (List TokD)) : Except (Int × Nat) (List TokD) := match r with | .error e => .error e | .ok l => .ok (toks ++ l)
theorem pref_nil (r : Except (Int × Nat) (List TokD)) : pref [] r = r := by cases r <;> rfl
theorem lex_stop {s : ByteArray} {f a : Nat} {toks : List TokD} (h : s.size ≤ a) : pref toks (lexF f a (dr s a)) = .ok toks := by
  rw [show dr s a = [] from drop_nil s a h]
  cases f <;> simp [lexF, pref]
theorem dr_ne {s : ByteArray} {a : Nat} (h : a < s.size) : dr s a ≠ [] := by rw [dr, drop_cons s a h]; simp
theorem dr_nil_iff (s : ByteArray) (a : Nat) : dr s a = [] ↔ s.size ≤ a := by
  constructor
  · intro h; rcases Nat.lt_or_ge a s.size with h' | h'
    · exact absurd h (dr_ne h')
    · exact h'
  · intro h; exact drop_nil s a h
theorem lex_gap {s : ByteArray} {f a : Nat} {toks : List TokD} (h : a < s.size) (hg : 0 < bkN (dr s a)) (h1 : a = 0 ∨ s.size ≤ a + bkN (dr s a)) : pref toks (lexF (f + 1) a (dr s a)) = .error (3, a) := by
  rw [lexF, if_neg (dr_ne h), dr_dr, if_pos ⟨hg, h1.imp id (fun h => (dr_nil_iff s _).2 h)⟩]; rfl
theorem lex_err {s : ByteArray} {f a g : Nat} {toks : List TokD} {e : Int} (h : a < s.size) (hg : bkN (dr s a) = g) (h1 : ¬ (0 < g ∧ (a = 0 ∨ s.size ≤ a + g))) (ht : tokT (dr s (a + g)) = .error e) : pref toks (lexF (f + 1) a (dr s a)) = .error (e, a + g) := by
  rw [lexF, if_neg (dr_ne h), dr_dr, hg, if_neg (fun hh => h1 ⟨hh.1, hh.2.imp id (fun h => (dr_nil_iff s _).1 h)⟩), ht]; rfl
theorem lex_go {s : ByteArray} {f a g : Nat} {toks : List TokD} {k v : Int} {t : List UInt8} {n : Nat} (h : a < s.size) (hg : bkN (dr s a) = g) (h1 : ¬ (0 < g ∧ (a = 0 ∨ s.size ≤ a + g))) (ht : tokT (dr s (a + g)) = .ok (k, t, v, n)) :
    pref toks (lexF (f + 1) a (dr s a)) = pref (toks ++ [⟨k, t, v, a + g, decide (0 < g)⟩]) (lexF f (a + g + n) (dr s (a + g + n))) := by
  rw [lexF, if_neg (dr_ne h), dr_dr, hg, if_neg (fun hh => h1 ⟨hh.1, hh.2.imp id (fun h => (dr_nil_iff s _).1 h)⟩), ht]
  simp only [dr_dr]
  cases lexF f (a + g + n) (dr s (a + g + n)) with
  | error e => rfl
  | ok r => simp [pref]
theorem lexL_long {l : List UInt8} (h : 4096 < l.length) : lexL l = .error (4, 0) := by unfold lexL; rw [if_pos h]
theorem lexL_err {l : List UInt8} {e : Int × Nat} (h : ¬ 4096 < l.length) (hf : lexF (l.length + 1) 0 l = .error e) : lexL l = .error e := by unfold lexL; rw [if_neg h, hf]
theorem lexL_nil {l : List UInt8} (h : ¬ 4096 < l.length) (hf : lexF (l.length + 1) 0 l = .ok []) : lexL l = .error (3, 0) := by unfold lexL; rw [if_neg h, hf]
theorem lexL_ok {l : List UInt8} {toks : List TokD} (h : ¬ 4096 < l.length) (hf : lexF (l.length + 1) 0 l = .ok toks) (hn : toks ≠ []) : lexL l = .ok toks := by
  unfold lexL; rw [if_neg h, hf]
  cases toks with
  | nil => exact absurd rfl hn
  | cons => rfl
theorem num_err (P Q : Prop) [Decidable P] [Decidable Q] (a : Int × Nat) (x : Int) (h : (if P then (.error 3 : Except Int (Int × Nat)) else if Q then .error 6 else .ok a) = .error x) : x = 3 ∨ x = 6 := by
  by_cases hp : P
  · rw [if_pos hp] at h; injection h with h; exact .inl h.symm
  · rw [if_neg hp] at h
    by_cases hq : Q
    · rw [if_pos hq] at h; injection h with h; exact .inr h.symm
    · rw [if_neg hq] at h; cases h
theorem tokT_err {l : List UInt8} {e : Int} (h : tokT l = .error e) : (e == 0) = false ∧ (e != 0) = true := by
  have key : e = 3 ∨ e = 6 := by
    unfold tokT at h
    cases l with
    | nil => simp only [Except.error.injEq] at h; omega
    | cons c r =>
      simp only at h
      split at h
      · split at h
        · cases h
        · simp only [Except.error.injEq] at h; omega
      · split at h
        · cases hn : numT (c :: r) with
          | ok vn => rw [hn] at h; cases h
          | error x =>
            rw [hn] at h
            simp only [Except.error.injEq] at h
            unfold numT at hn
            rw [← h]; exact num_err _ _ _ _ hn
        · split at h
          · cases h
          · split at h
            · cases h
            · simp only [Except.error.injEq] at h; omega
  rcases key with rfl | rfl <;> exact ⟨rfl, rfl⟩
/-- One token in order. -/
theorem ordL_cons {l : List UInt8} {from_ : Nat} {x : TokD} {r : List TokD} (h : ordL l from_ (x :: r) = true) :
    from_ ≤ x.at_ ∧ x.at_ < l.length ∧ (x.gap = true → x.at_ ≠ from_) ∧
    (if x.kind = 1 ∨ x.kind = 2 then 0 < x.s.length ∧ x.s.length ≤ l.length - x.at_ ∧ (l.drop x.at_).take x.s.length = x.s ∧ ordL l (x.at_ + x.s.length) r = true else ordL l (x.at_ + 1) r = true) := by
  rw [ordL] at h
  by_cases h1 : x.at_ < from_ ∨ l.length ≤ x.at_ ∨ (x.gap = true ∧ x.at_ = from_)
  · rw [if_pos h1] at h; cases h
  · rw [if_neg h1] at h
    refine ⟨by omega, by omega, fun hg he => h1 (.inr (.inr ⟨hg, he⟩)), ?_⟩
    by_cases h2 : x.kind = 1 ∨ x.kind = 2
    · rw [if_pos h2] at h ⊢
      by_cases h3 : x.s.length = 0 ∨ l.length - x.at_ < x.s.length ∨ (l.drop x.at_).take x.s.length ≠ x.s
      · rw [if_pos h3] at h; cases h
      · rw [if_neg h3] at h
        exact ⟨by omega, by omega, Classical.byContradiction fun hc => h3 (.inr (.inr hc)), h⟩
    · rw [if_neg h2] at h ⊢; exact h
theorem ordL_len {l : List UInt8} : ∀ (r : List TokD) (fr : Nat), ordL l fr r = true → r.length ≤ l.length - fr
  | [], _, _ => by simp
  | x :: r, fr, h => by
    obtain ⟨h1, h2, _, h3⟩ := ordL_cons h
    split at h3
    · have := ordL_len r _ h3.2.2.2; simp; omega
    · have := ordL_len r _ h3; simp; omega
/-- A slice of tokens, cell by cell. -/
def TkR (w : World) (A : Option Addr) (toks : List TokD) : Prop :=
  toks = [] ∨ ∃ b off, A = some ⟨b, off, none⟩ ∧ b < w.heap.size ∧ ∀ (i : Nat) (x : TokD), toks[i]? = some x → w.cell? ⟨b, off + i * 5, none⟩ = some (.int .i64 x.kind) ∧ w.cell? ⟨b, off + i * 5 + 1, none⟩ = some (.string (bs x.s)) ∧ w.cell? ⟨b, off + i * 5 + 2, none⟩ = some (.int .i64 x.n) ∧ w.cell? ⟨b, off + i * 5 + 3, none⟩ = some (.int .i64 (x.at_ : Nat)) ∧ w.cell? ⟨b, off + i * 5 + 4, none⟩ = some (.bool x.gap)
theorem tok_own {w : World} {base n : Nat} {e : TypeId} {v : Value} {l : List TokD} (h : w.ownsRow base e 5 v n (l.flatMap tokC)) (hn : n = l.length) : ∃ A cap, v = .slice A l.length cap ∧ l.length ≤ cap ∧ TkR w A l := by
  obtain ⟨A, cap, h1, h2, h3⟩ := own_flat tokC 5 tokC_len w base n e v l h hn
  refine ⟨A, cap, h1, h2, h3.imp id ?_⟩
  rintro ⟨b, off, e, _, hb, hc⟩
  exact ⟨b, off, e, hb, fun i x hx => ⟨hc i x hx 0 _ (by omega) rfl, hc i x hx 1 _ (by omega) rfl, hc i x hx 2 _ (by omega) rfl, hc i x hx 3 _ (by omega) rfl, hc i x hx 4 _ (by omega) rfl⟩⟩
theorem TkR.bel {w w2 : World} {A : Option Addr} {toks : List TokD} (h : TkR w A toks) (hb : Bel w.heap.size w w2) : TkR w2 A toks := by
  refine h.imp id ?_
  rintro ⟨b, off, e, hlt, hc⟩
  refine ⟨b, off, e, Nat.lt_of_lt_of_le hlt hb.size, fun i x hx => ?_⟩
  obtain ⟨h0, h1, h2, h3, h4⟩ := hc i x hx
  exact ⟨(hb.cell (p := ⟨b, _, none⟩) hlt).trans h0, (hb.cell (p := ⟨b, _, none⟩) hlt).trans h1, (hb.cell (p := ⟨b, _, none⟩) hlt).trans h2, (hb.cell (p := ⟨b, _, none⟩) hlt).trans h3, (hb.cell (p := ⟨b, _, none⟩) hlt).trans h4⟩
/-- What is returned of a query's text. -/
def LexP (l : List UInt8) (w : World) (e : Ending) (w' : World) : Prop :=
  (match lexL l with
    | .error (x, a) => e = .returned (.tuple #[.slice none 0 0, .agg #[.int .i64 x, .int .i64 ((a : Nat) : Int)]])
    | .ok toks => ∃ v, e = .returned (.tuple #[v, .agg #[.int .i64 0, .int .i64 0]]) ∧ w'.ownsRow (w.heap.size + 1) 92 5 v toks.length (toks.flatMap tokC)) ∧ Bel w.heap.size w w'
theorem LexP.no {l : List UInt8} {w w' : World} {x : Int} {a : Nat} (h : lexL l = .error (x, a)) (hb : Bel w.heap.size w w') : LexP l w (.returned (.tuple #[.slice none 0 0, .agg #[.int .i64 x, .int .i64 ((a : Nat) : Int)]])) w' := by
  unfold LexP; rw [h]; exact ⟨rfl, hb⟩
theorem LexP.yes {l : List UInt8} {w w' : World} {toks : List TokD} {v : Value} (h : lexL l = .ok toks) (hv : w'.ownsRow (w.heap.size + 1) 92 5 v toks.length (toks.flatMap tokC)) (hb : Bel w.heap.size w w') : LexP l w (.returned (.tuple #[v, .agg #[.int .i64 0, .int .i64 0]])) w' := by
  unfold LexP; rw [h]; exact ⟨⟨v, rfl, hv⟩, hb⟩


end
/- qtree: the reader in memory; over, at, kind, is, fail, form. -/
section
open Go.RowKit

/-- All but block g is kept. -/
structure Ex (g : Nat) (w w' : World) : Prop where
  os : w'.os = w.os
  output : w'.output = w.output
  size : w.heap.size ≤ w'.heap.size
  block : ∀ k, k < w.heap.size → k ≠ g → w'.heap[k]? = w.heap[k]?
section
variable {g : Nat} {a b c w w' : World}
theorem Ex.refl (g : Nat) (w : World) : Ex g w w := ⟨rfl, rfl, Nat.le_refl _, fun _ _ _ => rfl⟩
theorem Ex.trans (h : Ex g a b) (k : Ex g b c) : Ex g a c :=
  ⟨k.os.trans h.os, k.output.trans h.output, Nat.le_trans h.size k.size, fun i hi hg => (k.block i (Nat.lt_of_lt_of_le hi h.size) hg).trans (h.block i hi hg)⟩
theorem Ex.of_bel (g : Nat) (h : Bel w.heap.size w w') : Ex g w w' := ⟨h.os, h.output, h.size, fun k hk _ => h.block k hk⟩
theorem Ex.alloc (h : Ex g a w) (o : Obj) : Ex g a (w.alloc o) := h.trans (.of_bel g bel_lit)
theorem Ex.drewN (h : Ex g a w) (n : Nat) : Ex g a (w.drewN n) := ⟨h.os, h.output, h.size, h.block⟩
theorem Ex.set_ (h : Ex g a w) {p : Addr} (hp : p.block = g ∨ a.heap.size ≤ p.block) (u : Value) : Ex g a (w.setCell p u) :=
  ⟨h.os, h.output, by have := h.size; simpa using this, fun k hk hg => (Below.heap_setCell w p u k (by rcases hp with hp | hp <;> omega)).trans (h.block k hk hg)⟩
theorem Ex.bel (h : Ex g w w') (hg : g ≤ w.heap.size) : Bel g w w' := ⟨h.os, h.output, h.size, fun k hk => h.block k (by omega) (by omega)⟩
theorem Blk.ex {t : TypeId} {cs : Array Value} {k : Nat} (h : Blk w k t cs) (hx : Ex g w w') (hk : k ≠ g) : Blk w' k t cs := (hx.block k h.lt hk).trans h
theorem Ex.kp {K K' : Nat → Prop} (h : Ex g w w') (hK : ∀ b, K b → b < w.heap.size → b ≠ g ∧ K' b) : Kp K K' w w' := ⟨h.size, fun b hb hl => ⟨(hK b hb hl).2, h.block b hl (hK b hb hl).1⟩⟩
end
/-- Tokens below block g. -/
def TkB (g : Nat) (w : World) (A : Option Addr) (toks : List TokD) : Prop :=
  toks = [] ∨ ∃ b off, A = some ⟨b, off, none⟩ ∧ b < g ∧ ∀ (i : Nat) (x : TokD), toks[i]? = some x → w.cell? ⟨b, off + i * 5, none⟩ = some (.int .i64 x.kind) ∧ w.cell? ⟨b, off + i * 5 + 1, none⟩ = some (.string (bs x.s)) ∧ w.cell? ⟨b, off + i * 5 + 2, none⟩ = some (.int .i64 x.n) ∧ w.cell? ⟨b, off + i * 5 + 3, none⟩ = some (.int .i64 (x.at_ : Nat)) ∧ w.cell? ⟨b, off + i * 5 + 4, none⟩ = some (.bool x.gap)
theorem TkB.keep {g : Nat} {w w' : World} {A : Option Addr} {toks : List TokD} (h : TkB g w A toks) (hb : ∀ k, k < g → w'.heap[k]? = w.heap[k]?) : TkB g w' A toks := by
  refine h.imp id ?_
  rintro ⟨b, off, e, hlt, hc⟩
  refine ⟨b, off, e, hlt, fun i x hx => ?_⟩
  obtain ⟨h0, h1, h2, h3, h4⟩ := hc i x hx
  have k : ∀ o, w'.cell? ⟨b, o, none⟩ = w.cell? ⟨b, o, none⟩ := fun o => World.cell?_of_block (hb b hlt)
  exact ⟨(k _).trans h0, (k _).trans h1, (k _).trans h2, (k _).trans h3, (k _).trans h4⟩
theorem TkB.tail {g : Nat} {w : World} {b off : Nat} {x : TokD} {r : List TokD} (h : TkB g w (some ⟨b, off, none⟩) (x :: r)) : TkB g w (some ⟨b, off + 5, none⟩) r := by
  obtain ⟨b', off', e, hlt, hc⟩ := h.resolve_left (by simp)
  cases e
  refine .inr ⟨b, off + 5, rfl, hlt, fun i y hy => ?_⟩
  have := hc (i + 1) y (by simpa using hy)
  rw [show off + (i + 1) * 5 = off + 5 + i * 5 by omega] at this
  exact this
/-- The reader lies in block g. -/
def RdS (g : Nat) (E : Int) (w : World) (t : PSt) (d : Nat) : Prop :=
  ∃ A c, Blk w g 75 #[.slice A t.toks.length c, .int .i64 E, .int .i64 t.fe, .int .i64 t.fa, .int .i64 (d : Nat)] ∧ t.toks.length ≤ c ∧ (c ≤ 9223372036854775807 ∧ t.toks.length ≤ 1000000) ∧ d ≤ 100 ∧ TkB g w A t.toks
section
variable {g : Nat} {E : Int} {w w' : World} {t : PSt} {d : Nat}
theorem RdS.lt (h : RdS g E w t d) : g < w.heap.size := by obtain ⟨A, c, h, _⟩ := h; exact h.lt
theorem RdS.bel (h : RdS g E w t d) (hb : Bel w.heap.size w w') : RdS g E w' t d := by
  have hl := h.lt
  obtain ⟨A, c, h1, h2, h3, h4, h5⟩ := h
  exact ⟨A, c, h1.bel hb hl, h2, h3, h4, h5.keep fun k hk => hb.block k (by omega)⟩
theorem RdS.drewN (h : RdS g E w t d) (n : Nat) : RdS g E (w.drewN n) t d := h.bel ((Bel.refl _ _).drewN n)
theorem RdS.alloc (h : RdS g E w t d) (o : Obj) : RdS g E (w.alloc o) t d := h.bel bel_lit
/-- A store beyond block g. -/
theorem RdS.far (h : RdS g E w t d) {p : Addr} (hp : g < p.block) (u : Value) : RdS g E (w.setCell p u) t d := by
  obtain ⟨A, c, h1, h2, h3, h4, h5⟩ := h
  exact ⟨A, c, h1.far (by omega) u, h2, h3, h4, h5.keep fun k hk => Below.heap_setCell w p u k (by omega)⟩
theorem RdS.deep (h : RdS g E w t d) {v : Int} {d' : Nat} (hv : v = (d' : Nat)) (hd : d' ≤ 100) : RdS g E (w.setCell ⟨g, 4, none⟩ (.int .i64 v)) t d' := by
  obtain ⟨A, c, h1, h2, h3, h4, h5⟩ := h
  refine ⟨A, c, ?_, h2, h3, hd, h5.keep fun k hk => Below.heap_setCell w ⟨g, 4, none⟩ _ k (by show k ≠ g; omega)⟩
  have := h1.set_ 4 (.int .i64 v)
  rw [hv] at this ⊢
  exact this
theorem RdS.failed (h : RdS g E w t d) (e a : Int) (h0 : t.fe = 0) : RdS g E ((w.setCell ⟨g, 2, none⟩ (.int .i64 e)).setCell ⟨g, 3, none⟩ (.int .i64 a)) (failS a e t) d := by
  obtain ⟨A, c, h1, h2, h3, h4, h5⟩ := h
  have hk : ∀ k, k < g → ((w.setCell ⟨g, 2, none⟩ (.int .i64 e)).setCell ⟨g, 3, none⟩ (.int .i64 a)).heap[k]? = w.heap[k]? := fun k hk =>
    (Below.heap_setCell _ ⟨g, 3, none⟩ _ k (by show k ≠ g; omega)).trans (Below.heap_setCell w ⟨g, 2, none⟩ _ k (by show k ≠ g; omega))
  unfold failS
  rw [if_pos h0]
  exact ⟨A, c, (h1.set_ 2 (.int .i64 e)).set_ 3 (.int .i64 a), h2, h3, h4, h5.keep hk⟩
end
theorem Ex.self1 {g : Nat} {a w : World} (h : Ex g a w) (i : Nat) (u : Value) : Ex g a (w.setCell ⟨g, i, none⟩ u) := h.set_ (.inl rfl) u
/-- What the walk needs of the reader. -/
theorem RdS.cells {g : Nat} {E : Int} {w : World} {t : PSt} {d : Nat} (h : RdS g E w t d) : ∃ A c n, n = t.toks.length ∧ n ≤ c ∧ c ≤ 9223372036854775807 ∧ d ≤ 100 ∧ g < w.heap.size ∧
    (w.cell? ⟨g, 0, none⟩ = some (.slice A n c) ∧ w.cell? ⟨g, 1, none⟩ = some (.int .i64 E) ∧ w.cell? ⟨g, 2, none⟩ = some (.int .i64 t.fe) ∧ w.cell? ⟨g, 3, none⟩ = some (.int .i64 t.fa) ∧ w.cell? ⟨g, 4, none⟩ = some (.int .i64 (d : Nat))) ∧
    (w.frozen? ⟨g, 0, none⟩ = false ∧ w.frozen? ⟨g, 2, none⟩ = false ∧ w.frozen? ⟨g, 3, none⟩ = false ∧ w.frozen? ⟨g, 4, none⟩ = false) ∧ TkB g w A t.toks := by
  obtain ⟨A, c, h1, h2, h3, h4, h5⟩ := h
  exact ⟨A, c, _, rfl, h2, h3.1, h4, h1.lt, ⟨h1.cell 0, h1.cell 1, h1.cell 2, h1.cell 3, h1.cell 4⟩, ⟨h1.frozen 0, h1.frozen 2, h1.frozen 3, h1.frozen 4⟩, h5⟩
theorem TkB.head {g : Nat} {w : World} {A : Option Addr} {x : TokD} {r : List TokD} (h : TkB g w A (x :: r)) : ∃ b off, A = some ⟨b, off, none⟩ ∧ b < g ∧ w.cell? ⟨b, off, none⟩ = some (.int .i64 x.kind) ∧ w.cell? ⟨b, off + 1, none⟩ = some (.string (bs x.s)) ∧ w.cell? ⟨b, off + 2, none⟩ = some (.int .i64 x.n) ∧ w.cell? ⟨b, off + 3, none⟩ = some (.int .i64 (x.at_ : Nat)) ∧ w.cell? ⟨b, off + 4, none⟩ = some (.bool x.gap) := by
  obtain ⟨b, off, e, hlt, hc⟩ := h.resolve_left (by simp)
  have := hc 0 x rfl
  simp only [Nat.zero_mul, Nat.add_zero] at this
  exact ⟨b, off, e, hlt, this⟩
theorem eq_bs (s : ByteArray) (l : List UInt8) : ((bs l).toList == s.toList) = (l == s.data.toList) := by
  cases h : (l == s.data.toList) with
  | true => exact str_t (bs_of (beq_iff_eq.1 h).symm).symm
  | false => exact str_f (fun e => by rw [beq_eq_false_iff_ne] at h; apply h; rw [← e, bs_list])

set_option maxRecDepth 100000 in
set_option maxHeartbeats 1000000 in
theorem over_any (g : Nat) (E : Int) (t : PSt) (d : Nat) (w : World) (h : RdS g E w t d) :
    Calls Tryz.prog 33 #[.pointer (some ⟨g, 0, none⟩)] w fun e w' => e = .returned (.bool (ovS t)) ∧ w = w' := by
  obtain ⟨A, c, n, hn, hnc, hc, hd, hg, ⟨c0, c1, c2, c3, c4⟩, _, _⟩ := h.cells
  obtain ⟨toks, fe, fa⟩ := t
  simp only at hn c2
  by_cases hf : fe = 0
  · have HE := Lib.hid (show ovS ⟨toks, fe, fa⟩ = (n == 0) by unfold ovS; simp only; rw [hf, hn]; cases toks <;> rfl)
    have hf' : (fe != 0) = false := by rw [hf]; rfl
    have HN := Lib.hid hn
    clear hn hf
    go_enter Tryz.func33, Tryz.ntmps33
    go_wp2
    go_ret
    exact ⟨ret_bool (by rw [HE.out, Bool.eq_iff_iff]; simp; try omega), rfl⟩
  · have HE := Lib.hid (show ovS ⟨toks, fe, fa⟩ = true by unfold ovS; simp only; rw [bne_iff_ne.2 hf]; rfl)
    have hf' : (fe != 0) = true := bne_iff_ne.2 hf
    clear hn hf
    go_enter Tryz.func33, Tryz.ntmps33
    go_wp2
    go_ret
    exact ⟨ret_bool (by rw [HE.out]), rfl⟩
theorem over_at (b : Bool) {g : Nat} {E : Int} {t : PSt} {d : Nat} (w : World) (h : RdS g E w t d) (hb : Hid (ovS t = b)) :
    Calls Tryz.prog 33 #[.pointer (some ⟨g, 0, none⟩)] w fun e w' => e = .returned (.bool b) ∧ w = w' := by
  rw [← hb.out]; exact over_any g E t d w h

set_option maxRecDepth 100000 in
set_option maxHeartbeats 1000000 in
theorem at_any (g : Nat) (E : Int) (t : PSt) (d : Nat) (w : World) (h : RdS g E w t d) :
    Calls Tryz.prog 53 #[.pointer (some ⟨g, 0, none⟩)] w fun e w' => e = .returned (.int .i64 (atS E t)) ∧ w = w' := by
  obtain ⟨A, c, n, hn, hnc, hc, hd, hg, ⟨c0, c1, c2, c3, c4⟩, _, hT⟩ := h.cells
  obtain ⟨toks, fe, fa⟩ := t
  simp only at hn c2 hT
  cases toks with
  | nil =>
    have HE := Lib.hid (show atS E ⟨[], fe, fa⟩ = E from rfl)
    obtain rfl : n = 0 := hn
    clear hT
    go_enter Tryz.func53, Tryz.ntmps53
    go_wp2
    go_ret
    exact ⟨ret_int (by rw [HE.out]), rfl⟩
  | cons x r =>
    have HE := Lib.hid (show atS E ⟨x :: r, fe, fa⟩ = (x.at_ : Nat) from rfl)
    obtain ⟨b, off, rfl, hb, d0, d1, d2, d3, d4⟩ := hT.head
    have hn0 : 0 < n := by rw [hn]; simp
    have hn1 : ((n : Int) == 0) = false := by rw [beq_eq_false_iff_ne]; omega
    clear hn hT
    go_enter Tryz.func53, Tryz.ntmps53
    go_wp2
    go_ret
    exact ⟨ret_int (by rw [HE.out]), rfl⟩

set_option maxRecDepth 100000 in
set_option maxHeartbeats 1000000 in
theorem kind_any (g : Nat) (E : Int) (t : PSt) (d : Nat) (w : World) (h : RdS g E w t d) :
    Calls Tryz.prog 51 #[.pointer (some ⟨g, 0, none⟩)] w fun e w' => e = .returned (.int .i64 (kindS t)) ∧ w = w' := by
  obtain ⟨A, c, n, hn, hnc, hc, hd, hg, ⟨c0, c1, c2, c3, c4⟩, _, hT⟩ := h.cells
  have hov := fun b (hb : ovS t = b) => over_at b w h (Lib.hid hb)
  cases hb : ovS t with
  | true =>
    have HO := Lib.hid (hov true hb)
    have HE := Lib.hid (show kindS t = 0 by
      unfold kindS hdT
      unfold ovS at hb
      split
      · rename_i h0
        rw [h0] at hb
        cases ht : t.toks with
        | nil => rfl
        | cons x r => rw [ht] at hb; simp at hb
      · rfl)
    clear hb hov hn hT
    go_enter Tryz.func51, Tryz.ntmps51
    go_wp2_with (go_at_call 33; refine HO.out.mono ?_; rintro e w' ⟨rfl, rfl⟩)
    go_ret
    exact ⟨ret_int (by rw [HE.out]), rfl⟩
  | false =>
    have HO := Lib.hid (hov false hb)
    obtain ⟨toks, fe, fa⟩ := t
    unfold ovS at hb
    simp only [Bool.or_eq_false_iff, bne_eq_false_iff_eq] at hb
    obtain ⟨hf, ht⟩ := hb
    simp only at hn hT c2
    cases toks with
    | nil => simp at ht
    | cons x r =>
      have HE := Lib.hid (show kindS ⟨x :: r, fe, fa⟩ = x.kind by unfold kindS hdT; simp only; rw [if_pos hf])
      obtain ⟨b, off, rfl, hb, d0, d1, d2, d3, d4⟩ := hT.head
      have hn0 : 0 < n := by rw [hn]; simp
      clear hn hT hov hf ht
      go_enter Tryz.func51, Tryz.ntmps51
      go_wp2_with (go_at_call 33; refine HO.out.mono ?_; rintro e w' ⟨rfl, rfl⟩)
      go_ret
      exact ⟨ret_int (by rw [HE.out]), rfl⟩
theorem kind_at (k : Int) {g : Nat} {E : Int} {t : PSt} {d : Nat} (w : World) (h : RdS g E w t d) (hb : Hid (kindS t = k)) :
    Calls Tryz.prog 51 #[.pointer (some ⟨g, 0, none⟩)] w fun e w' => e = .returned (.int .i64 k) ∧ w = w' := by
  rw [← hb.out]; exact kind_any g E t d w h

set_option maxRecDepth 100000 in
set_option maxHeartbeats 1000000 in
theorem is_any (g : Nat) (E : Int) (t : PSt) (d : Nat) (s : ByteArray) (w : World) (h : RdS g E w t d) :
    Calls Tryz.prog 30 #[.pointer (some ⟨g, 0, none⟩), .string s] w fun e w' => e = .returned (.bool (isS s.data.toList t)) ∧ w = w' := by
  obtain ⟨A, c, n, hn, hnc, hc, hd, hg, ⟨c0, c1, c2, c3, c4⟩, _, hT⟩ := h.cells
  obtain ⟨k, hk⟩ : ∃ k, kindS t = k := ⟨_, rfl⟩
  have HK := Lib.hid (kind_at k w h (Lib.hid hk))
  by_cases h1 : k = 1
  · have hk1 : (k == 1) = true := by rw [h1]; rfl
    obtain ⟨toks, fe, fa⟩ := t
    simp only at hn hT c2
    have hf : fe = 0 := Classical.byContradiction fun hf => by
      unfold kindS at hk; rw [hdT_bad hf] at hk; simp [tok0] at hk; omega
    cases toks with
    | nil => unfold kindS hdT at hk; rw [if_pos hf] at hk; simp [tok0] at hk; omega
    | cons x r =>
      have hh : hdT ⟨x :: r, fe, fa⟩ = x := by unfold hdT; simp only; rw [if_pos hf]
      have HE := Lib.hid (show isS s.data.toList ⟨x :: r, fe, fa⟩ = ((bs x.s).toList == s.toList) by
        unfold isS
        rw [hk, hh, eq_bs]
        simp [h1])
      obtain ⟨b, off, rfl, hb, d0, d1, d2, d3, d4⟩ := hT.head
      have hn0 : 0 < n := by rw [hn]; simp
      clear hn hT hf hk h1 hh
      go_enter Tryz.func30, Tryz.ntmps30
      go_wp2_with (go_at_call 51; refine HK.out.mono ?_; rintro e w' ⟨rfl, rfl⟩)
      go_ret
      exact ⟨ret_bool (by rw [HE.out]), rfl⟩
  · have hk1 : (k == 1) = false := by rw [beq_eq_false_iff_ne]; exact h1
    have HE := Lib.hid (show isS s.data.toList t = false by unfold isS; rw [hk]; simp [h1])
    clear hn hT hk h1
    go_enter Tryz.func30, Tryz.ntmps30
    go_wp2_with (go_at_call 51; refine HK.out.mono ?_; rintro e w' ⟨rfl, rfl⟩)
    go_ret
    exact ⟨ret_bool (by rw [HE.out]), rfl⟩
theorem is_at (s : ByteArray) (b : Bool) {g : Nat} {E : Int} {t : PSt} {d : Nat} (w : World) (h : RdS g E w t d) (hb : Hid (isS s.data.toList t = b)) :
    Calls Tryz.prog 30 #[.pointer (some ⟨g, 0, none⟩), .string s] w fun e w' => e = .returned (.bool b) ∧ w = w' := by
  rw [← hb.out]; exact is_any g E t d s w h

set_option maxRecDepth 100000 in
set_option maxHeartbeats 1000000 in
theorem fail_any (g : Nat) (E : Int) (t : PSt) (d : Nat) (a e : Int) (w : World) (h : RdS g E w t d) :
    Calls Tryz.prog 52 #[.pointer (some ⟨g, 0, none⟩), .int .i64 a, .int .i64 e] w fun e' w' => e' = .returned (.tuple #[]) ∧ RdS g E w' (failS a e t) d ∧ Ex g w w' := by
  obtain ⟨A, c, n, hn, hnc, hc, hd, hg, ⟨c0, c1, c2, c3, c4⟩, ⟨f0, f2, f3, f4⟩, hT⟩ := h.cells
  obtain ⟨fe, hfe⟩ : ∃ fe, t.fe = fe := ⟨_, rfl⟩
  rw [hfe] at c2
  by_cases hf : fe = 0
  · have hf' : (fe == 0) = true := by rw [hf]; rfl
    have HR := Lib.hid (h.failed e a (hfe.trans hf))
    clear hn hT hf hfe
    go_enter Tryz.func52, Tryz.ntmps52
    go_wp2
    go_end0
    exact ⟨rfl, HR.out, ((Ex.refl g w).self1 2 _).self1 3 _⟩
  · have hf' : (fe == 0) = false := by rw [beq_eq_false_iff_ne]; exact hf
    have HR := Lib.hid (show RdS g E w (failS a e t) d by rw [failS_bad (by rw [hfe]; exact hf)]; exact h)
    clear hn hT hf hfe
    go_enter Tryz.func52, Tryz.ntmps52
    go_wp2
    go_end0
    exact ⟨rfl, HR.out, Ex.refl g w⟩

set_option maxRecDepth 100000 in
set_option maxHeartbeats 1000000 in
theorem form_any (g : Nat) (E : Int) (t : PSt) (d : Nat) (w : World) (h : RdS g E w t d) :
    Calls Tryz.prog 31 #[.pointer (some ⟨g, 0, none⟩)] w fun e w' => e = .returned (.tuple #[]) ∧ RdS g E w' (formS E t) d ∧ Ex g w w' := by
  have HA := Lib.hid (at_any g E t d w h)
  have HF := Lib.hid (fail_any g E t d (atS E t) 3 w h)
  obtain ⟨a, ha⟩ : ∃ a, atS E t = a := ⟨_, rfl⟩
  unfold formS
  rw [ha] at HA HF ⊢
  clear ha h
  go_enter Tryz.func31, Tryz.ntmps31
  go_wp2_with (first | (go_at_call 53; refine HA.out.mono ?_; rintro e w' ⟨rfl, rfl⟩) | (go_at_call 52; refine HF.out.mono ?_; rintro e w' ⟨rfl, hr, hx⟩))
  go_end0
  exact ⟨rfl, hr, hx⟩

end

end Go.Proofs.YtpcbcodmocmilaaGreatDoor
