/- RG25: Cn, Sc, Sd joined. -/
import Derived.Lib.ItoaLen
import Derived.Test.YtpcbcodmocmilaaGreatDoorRCa
import Derived.Test.YtpcbcodmocmilaaGreatDoorRG03
import Derived.Test.YtpcbcodmocmilaaGreatDoorRG23
namespace Go.Proofs.YtpcbcodmocmilaaGreatDoor
open Go.RowKit
/- Tokens of a text: numbers within bounds, as many as bytes at most; a query's shape (plain; no word of a dump). -/
section

theorem capI_bd2 {a : Int} (h : 0 ≤ a ∧ a ≤ 9007199254740992) {c : UInt8} (hc : 48 ≤ (c.toNat : Int)) : 0 ≤ capI a c ∧ capI a c ≤ 9007199254740992 := by
  unfold capI; omega
theorem numV_bd2 : ∀ (l : List UInt8) (a : Int), 0 ≤ a ∧ a ≤ 9007199254740992 → (∀ c ∈ l, isDig c = true) → 0 ≤ l.foldl capI a ∧ l.foldl capI a ≤ 9007199254740992
  | [], _, h, _ => h
  | c :: r, a, h, hd => numV_bd2 r _ (capI_bd2 h (by
      have := hd c (by simp)
      unfold isDig at this
      simp at this
      first | omega | (have h2 := this.1; exact_mod_cast (UInt8.le_iff_toNat_le.1 h2)))) fun x hx => hd x (by simp [hx])
theorem dig_take : ∀ (l : List UInt8), ∀ c ∈ l.take (digN l), isDig c = true
  | [], c, h => by simp at h
  | x :: r, c, h => by
    rw [digN] at h
    split at h
    · rw [List.take_succ_cons] at h
      rcases List.mem_cons.1 h with rfl | h
      · assumption
      · exact dig_take r c h
    · simp at h
theorem numT_n {l : List UInt8} {v : Int} {n : Nat} (h : numT l = .ok (v, n)) : okN v := by
  unfold numT at h
  obtain ⟨_, h2, h3, _⟩ := num_aux _ _ _ _ _ _ h
  subst h3
  cases hm : hd l 45
  · rw [hm] at h2
    simp only [Bool.false_eq_true, if_false, List.drop_zero] at h2 ⊢
    have := numV_bd2 (l.take (digN l)) 0 (by omega) (dig_take l)
    unfold okN numV at *
    omega
  · rw [hm] at h2
    simp only [if_true] at h2 ⊢
    have := numV_bd2 ((l.drop 1).take (digN (l.drop 1))) 0 (by omega) (dig_take _)
    unfold okN numV at *
    omega
theorem tokT_n {l : List UInt8} {k : Int} {t : List UInt8} {v : Int} {n : Nat} (h : tokT l = .ok (k, t, v, n)) : okN v := by
  have h0 : okN 0 := by unfold okN; omega
  unfold tokT at h
  cases l with
  | nil => cases h
  | cons c r =>
    simp only at h
    split at h
    · cases ht : txtF (r.length + 1) c r with
      | none => rw [ht] at h; cases h
      | some tn =>
        rw [ht] at h
        simp only [Except.ok.injEq, Prod.mk.injEq] at h
        rw [← h.2.2.1]; exact h0
    · split at h
      · cases hn : numT (c :: r) with
        | error e => rw [hn] at h; cases h
        | ok vn =>
          obtain ⟨v', m⟩ := vn
          rw [hn] at h
          simp only [Except.ok.injEq, Prod.mk.injEq] at h
          rw [← h.2.2.1]; exact numT_n hn
      · split at h
        · simp only [Except.ok.injEq, Prod.mk.injEq] at h
          rw [← h.2.2.1]; exact h0
        · cases hs : signsL.find? (fun x => (c :: r).take x.length == x) with
          | none => rw [hs] at h; cases h
          | some x =>
            rw [hs] at h
            simp only [Except.ok.injEq, Prod.mk.injEq] at h
            rw [← h.2.2.1]; exact h0
theorem lexF_tk : ∀ (f a : Nat) (u : List UInt8) (r : List TokD), lexF f a u = .ok r → (∀ x ∈ r, okN x.n) ∧ r.length ≤ u.length
  | 0, a, u, r, h => by
    rw [lexF] at h
    cases h
    exact ⟨fun x hx => by simp at hx, Nat.zero_le _⟩
  | f + 1, a, u, r, h => by
    rw [lexF] at h
    split at h
    · cases h; exact ⟨fun x hx => by simp at hx, Nat.zero_le _⟩
    · split at h
      · cases h
      · cases ht : tokT (u.drop (bkN u)) with
        | error e => rw [ht] at h; cases h
        | ok q =>
          obtain ⟨k, t, v, n⟩ := q
          rw [ht] at h
          simp only at h
          have h1 := tokT_ok _ _ _ _ _ ht
          unfold tokOK at h1
          cases hl : lexF f (a + bkN u + n) ((u.drop (bkN u)).drop n) with
          | error e => rw [hl] at h; cases h
          | ok r2 =>
            rw [hl] at h
            simp only [Except.ok.injEq] at h
            obtain ⟨h2, h3⟩ := lexF_tk f _ _ r2 hl
            subst h
            refine ⟨fun x hx => ?_, ?_⟩
            · rcases List.mem_cons.1 hx with rfl | hx
              · exact tokT_n ht
              · exact h2 x hx
            · have h4 := h1.1
              have h5 := h1.2.1
              rw [List.length_drop, List.length_drop] at h3
              rw [List.length_drop] at h5
              rw [List.length_cons]; omega
theorem stOf_tk (l : List UInt8) : (∀ x ∈ (stOf l).toks, okN x.n) ∧ (stOf l).toks.length ≤ l.length := by
  unfold stOf
  cases h : lexL l with
  | error e => exact ⟨fun x hx => by simp at hx, Nat.zero_le _⟩
  | ok r =>
    simp only
    unfold lexL at h
    split at h
    · cases h
    · cases hf : lexF (l.length + 1) 0 l with
      | error e => rw [hf] at h; cases h
      | ok r2 =>
        rw [hf] at h
        cases r2 with
        | nil => cases h
        | cons x r3 =>
          simp only [Except.ok.injEq] at h
          subst h
          exact lexF_tk _ _ _ _ hf
/-- A query that is read: its shape, and how much it weighs. -/
theorem parse_wf {m : Bool} {l : List UInt8} {p : PathT} (h : parseT m l = .ok p) : WfP (fun _ => True) (WfN (fun _ => True) 200) p ∧ wtP (wtN 200) p ≤ 4 * l.length ∧ p.abs = true := by
  obtain ⟨h1, h2⟩ := stOf_tk l
  have := parse2_g (S := fun _ => True) (t := stOf l) (fun x hx => ⟨h1 x hx, fun _ => trivial⟩) h
  exact ⟨this.1, by omega, this.2.2⟩
theorem err_ne {m : Bool} {l : List UInt8} {x a : Int} (h : parseT m l = .error (x, a)) : x ≠ 0 := by
  unfold parseT parse2 at h
  generalize (if ovS (parse1 m (l.length : Nat) (stOf l)).2 then (parse1 m (l.length : Nat) (stOf l)).2 else formS (l.length : Nat) (parse1 m (l.length : Nat) (stOf l)).2) = X at h
  by_cases hc : X.fe = 0
  · rw [if_pos hc] at h; cases h
  · rw [if_neg hc] at h
    simp only [Except.error.injEq, Prod.mk.injEq] at h
    rw [← h.1]; exact hc

end
/- The texts of a query's tokens: their bytes are scalars, and how many they are (plain; no word of a dump). -/
section

theorem hexU_bd {c : UInt8} {a : Int} (h : hexV c = some a) : 0 ≤ a ∧ a ≤ 15 := by
  unfold hexV at h
  split at h
  · cases h; omega
  · split at h
    · cases h; omega
    · split at h
      · cases h; omega
      · cases h
theorem unitU_bd {l : List UInt8} {a : Int} (h : unitV l = some a) : 0 ≤ a ∧ a ≤ 65535 := by
  match l, h with
  | x :: y :: z :: u :: r, h =>
    simp only [unitV, Option.bind_eq_some_iff, Option.map_eq_some_iff] at h
    obtain ⟨p, hp, q, hq, s, hs, t, ht, rfl⟩ := h
    have h1 := hexU_bd hp
    have h2 := hexU_bd hq
    have h3 := hexU_bd hs
    have h4 := hexU_bd ht
    omega
theorem okU_byte (c : UInt8) : okU (c.toNat : Int) := by
  have := UInt8.toNat_lt c
  unfold okU; omega
theorem escV_ok {m c : UInt8} {a : Int} (h : escV m c = some a) : okU a := by
  have hc := okU_byte c
  unfold escV at h
  unfold okU at *
  (repeat' split at h) <;> (first | (cases h; omega) | cases h)
theorem charT_ok {m : UInt8} {l : List UInt8} {x : Int} {n : Nat} (h : charT m l = some (x, n)) : okU x := by
  unfold charT at h
  match l with
  | [] => simp at h
  | c :: r =>
    simp only at h
    split at h
    · cases h
    · split at h
      · split at h
        · cases h
        · rename_i h2
          simp only [Option.some.injEq, Prod.mk.injEq] at h
          have := right_scal (c :: r) (by have := (scalV_len (c :: r)).1; omega)
          rw [← h.1]; exact this.2
      · match r with
        | [] => simp at h
        | d :: r2 =>
          simp only at h
          split at h
          · cases hu : unitV r2 with
            | none => rw [hu] at h; cases h
            | some a =>
              rw [hu] at h
              simp only at h
              have hb := unitU_bd hu
              split at h
              · simp only [Option.some.injEq, Prod.mk.injEq] at h
                unfold okU; omega
              · split at h
                · cases h
                · split at h
                  · cases hv : unitV (r2.drop 6) with
                    | none => rw [hv] at h; cases h
                    | some b =>
                      rw [hv] at h
                      simp only at h
                      split at h
                      · simp only [Option.some.injEq, Prod.mk.injEq] at h
                        unfold okU; omega
                      · cases h
                  · cases h
          · cases he : escV m d with
            | none => rw [he] at h; cases h
            | some e =>
              rw [he] at h
              simp only [Option.map_some, Option.some.injEq, Prod.mk.injEq] at h
              rw [← h.1]; exact escV_ok he
theorem putU_len (x : Int) : (putV x).length ≤ 4 := by
  unfold putV
  (repeat' split) <;> simp
theorem txtF_right : ∀ (f : Nat) (m : UInt8) (l t : List UInt8) (n : Nat), txtF f m l = some (t, n) → runU 0 t = 0 ∧ t.length ≤ 4 * n
  | 0, _, _, _, _, h => by simp [txtF] at h
  | f + 1, m, l, t, n, h => by
    unfold txtF at h
    match l with
    | [] => simp at h
    | c :: r =>
      simp only at h
      split at h
      · simp only [Option.some.injEq, Prod.mk.injEq] at h
        rw [← h.1]; exact ⟨rfl, Nat.zero_le _⟩
      · cases hc : charT m (c :: r) with
        | none => rw [hc] at h; cases h
        | some xn =>
          obtain ⟨x, k⟩ := xn
          rw [hc] at h
          simp only at h
          have h1 := charT_ok hc
          have h3 := (charT_len m (c :: r) x k hc).1
          cases ht : txtF f m ((c :: r).drop k) with
          | none => rw [ht] at h; cases h
          | some tk =>
            obtain ⟨t', k'⟩ := tk
            rw [ht] at h
            simp only [Option.map_some, Option.some.injEq, Prod.mk.injEq] at h
            obtain ⟨h2, h4⟩ := txtF_right f m _ t' k' ht
            rw [← h.1, ← h.2]
            refine ⟨right_app (right_put h1.1 h1.2.1 h1.2.2) h2, ?_⟩
            have := putU_len x
            rw [List.length_append]; omega
theorem right_letL (l : List UInt8) : runU 0 (l.take (letL l)) = 0 := by
  unfold letL
  split
  · rename_i h
    simp only [Bool.and_eq_true, decide_eq_true_eq] at h
    exact (right_scal l h.2).1
  · rfl
theorem right_letR (l : List UInt8) : runU 0 (l.take (letR l)) = 0 := by
  unfold letR
  split
  · cases l with
    | nil => rfl
    | cons c r =>
      simp only
      split
      · rename_i h
        unfold isDig at h
        simp only [Bool.and_eq_true, decide_eq_true_eq] at h
        have h2 := h.2
        rw [List.take_succ_cons, List.take_zero, runU_cons, us0_a (by have : (57 : UInt8).toNat = 57 := rfl; omega), runU_nil]
      · rfl
  · exact right_letL l
theorem right_namF : ∀ (f : Nat) (l : List UInt8), runU 0 (l.take (namF f l)) = 0
  | 0, l => rfl
  | f + 1, l => by
    rw [namF]
    split
    · rfl
    · rw [List.take_add]
      exact right_app (right_letR l) (right_namF f _)
theorem right_nameL (l : List UInt8) : runU 0 (l.take (nameL l)) = 0 := by
  unfold nameL
  split
  · rfl
  · rw [List.take_add]
    exact right_app (right_letL l) (right_namF _ _)
theorem tokT_S {l : List UInt8} {k : Int} {t : List UInt8} {v : Int} {n : Nat} (h : tokT l = .ok (k, t, v, n)) (hk : k = 2 ∨ k = 4) : t.length ≤ 4 * l.length ∧ runU 0 t = 0 := by
  unfold tokT at h
  cases l with
  | nil => cases h
  | cons c r =>
    simp only at h
    split at h
    · cases ht : txtF (r.length + 1) c r with
      | none => rw [ht] at h; cases h
      | some tn =>
        obtain ⟨t', m⟩ := tn
        rw [ht] at h
        simp only [Except.ok.injEq, Prod.mk.injEq] at h
        obtain ⟨h1, h2⟩ := txtF_right _ _ _ _ _ ht
        have h3 := (txtF_len _ _ _ _ _ ht).2
        rw [← h.2.1, List.length_cons]
        exact ⟨by omega, h1⟩
    · split at h
      · cases hn : numT (c :: r) with
        | error e => rw [hn] at h; cases h
        | ok vn =>
          obtain ⟨v', m⟩ := vn
          rw [hn] at h
          simp only [Except.ok.injEq, Prod.mk.injEq] at h
          omega
      · split at h
        · simp only [Except.ok.injEq, Prod.mk.injEq] at h
          rw [← h.2.1]
          exact ⟨by rw [List.length_take]; omega, right_nameL _⟩
        · cases hs : signsL.find? (fun x => (c :: r).take x.length == x) with
          | none => rw [hs] at h; cases h
          | some x =>
            rw [hs] at h
            simp only [Except.ok.injEq, Prod.mk.injEq] at h
            omega
theorem lexF_S : ∀ (f a : Nat) (u : List UInt8) (r : List TokD), lexF f a u = .ok r → ∀ x ∈ r, x.kind = 2 ∨ x.kind = 4 → x.s.length ≤ 4 * u.length ∧ runU 0 x.s = 0
  | 0, a, u, r, h => by
    rw [lexF] at h
    cases h
    exact fun x hx => by simp at hx
  | f + 1, a, u, r, h => by
    rw [lexF] at h
    split at h
    · cases h; exact fun x hx => by simp at hx
    · split at h
      · cases h
      · cases ht : tokT (u.drop (bkN u)) with
        | error e => rw [ht] at h; cases h
        | ok q =>
          obtain ⟨k, t, v, n⟩ := q
          rw [ht] at h
          simp only at h
          cases hl : lexF f (a + bkN u + n) ((u.drop (bkN u)).drop n) with
          | error e => rw [hl] at h; cases h
          | ok r2 =>
            rw [hl] at h
            simp only [Except.ok.injEq] at h
            have h2 := lexF_S f _ _ r2 hl
            subst h
            intro x hx hk
            rcases List.mem_cons.1 hx with rfl | hx
            · have := tokT_S ht hk
              rw [List.length_drop] at this
              exact ⟨by simp only; omega, this.2⟩
            · have := h2 x hx hk
              rw [List.length_drop, List.length_drop] at this
              exact ⟨by omega, this.2⟩
/-- What is asked of a name here: scalars, N bytes at most. -/
def SS (N : Nat) (t : List UInt8) : Prop := t.length ≤ N ∧ runU 0 t = 0
theorem stOf_S (l : List UInt8) : Tk (SS (4 * l.length)) (stOf l) := by
  intro x hx
  refine ⟨(stOf_tk l).1 x hx, fun hk => ?_⟩
  unfold stOf at hx
  cases h : lexL l with
  | error e => rw [h] at hx; simp at hx
  | ok r =>
    rw [h] at hx
    simp only at hx
    unfold lexL at h
    split at h
    · cases h
    · cases hf : lexF (l.length + 1) 0 l with
      | error e => rw [hf] at h; cases h
      | ok r2 =>
        rw [hf] at h
        cases r2 with
        | nil => cases h
        | cons y r3 =>
          simp only [Except.ok.injEq] at h
          subst h
          exact lexF_S _ _ _ _ hf x hx hk
theorem parse_wfS {m : Bool} {l : List UInt8} {p : PathT} (h : parseT m l = .ok p) : WfP (SS (4 * l.length)) (WfN (SS (4 * l.length)) 200) p ∧ wtP (wtN 200) p ≤ 4 * l.length ∧ p.abs = true := by
  have := parse2_g (S := SS (4 * l.length)) (t := stOf l) (stOf_S l) h
  exact ⟨this.1, by have := (stOf_tk l).2; omega, this.2.2⟩

end
/- How long is what is written of a query (plain; no word of a dump). -/
section

theorem escB_len (m c : UInt8) : (escB m c).length ≤ 6 := by
  unfold escB signB
  (repeat' split) <;> simp
theorem escs_len (m : UInt8) : ∀ t : List UInt8, (t.flatMap (escB m)).length ≤ 6 * t.length
  | [] => by simp
  | c :: r => by
    have h1 := escB_len m c
    have h2 := escs_len m r
    rw [List.flatMap_cons, List.length_append, List.length_cons]; omega
theorem txtL_len (m : UInt8) (t : List UInt8) : (txtL m t).length ≤ 2 + 6 * t.length := by
  have := escs_len m t
  unfold txtL
  rw [List.length_cons, List.length_append, List.length_singleton]; omega
theorem intL_len {n : Int} (h : okN n) : (intL n).length ≤ 21 := by
  unfold okN at h
  exact Lib.itoa_length_le n (by omega) (by omega)
theorem sliceW_len {x : SelT} (h1 : okN x.fr) (h2 : okN x.tt) (h3 : okN x.step) : (sliceW x).length ≤ 70 := by
  have := intL_len h1
  have := intL_len h2
  have := intL_len h3
  unfold sliceW
  rw [List.length_append, List.length_cons, List.length_append]
  (repeat' split) <;> simp only [List.length_cons, List.length_nil] <;> omega
theorem joinW_len {α : Type} (sep : List UInt8) (f : α → List UInt8) : ∀ l : List α, (joinW sep f l).length ≤ (l.map fun x => (f x).length + sep.length).sum
  | [] => by simp [joinW]
  | [x] => by simp [joinW]
  | x :: y :: r => by
    have := joinW_len sep f (y :: r)
    rw [joinW, List.length_append, List.length_append, List.map_cons, List.sum_cons]; omega
theorem sum_le_mul {α : Type} (K : Nat) (f w : α → Nat) : ∀ l : List α, (∀ x ∈ l, f x ≤ K * w x) → (l.map f).sum ≤ K * (l.map w).sum
  | [], _ => by simp
  | x :: r, h => by
    have h1 := h x (by simp)
    have h2 := sum_le_mul K f w r fun y hy => h y (by simp [hy])
    rw [List.map_cons, List.map_cons, List.sum_cons, List.sum_cons, Nat.mul_add]; omega
section
variable {N : Nat} {W : ExprT → Prop} {E : ExprT → List UInt8} {w : ExprT → Nat}
theorem selW_len (hN : N ≤ 3000) (hE : ∀ e, W e → (E e).length + 10 ≤ 20000 * w e) {y : SelT} (h : WfS (SS N) W y) : (selW E y).length + 10 ≤ 20000 * wtS w y := by
  have h0 : okN 0 := by unfold okN; omega
  cases h with
  | nm s a =>
    have := txtL_len 39 s
    have := a.1
    have e : selW E ⟨0, s, 0, 0, 0, 0, false, false, none⟩ = txtL 39 s := by unfold selW; simp
    rw [e]; unfold wtS; simp only; omega
  | wild => unfold selW wtS; simp
  | idx n a =>
    have := intL_len a
    have e : selW E ⟨2, [], n, 0, 0, 0, false, false, none⟩ = intL n := by unfold selW; simp
    rw [e]; unfold wtS; simp only; omega
  | slice a b c ha hb a1 a2 a3 a4 a5 =>
    have := sliceW_len (x := ⟨3, [], 0, a, b, c, ha, hb, none⟩) a1 a2 a3
    have e : selW E ⟨3, [], 0, a, b, c, ha, hb, none⟩ = sliceW ⟨3, [], 0, a, b, c, ha, hb, none⟩ := by unfold selW; simp
    rw [e]; unfold wtS; simp only; omega
  | filt e a =>
    have := hE e a
    have e : selW E ⟨4, [], 0, 0, 0, 0, false, false, some e⟩ = 63 :: E e := by unfold selW; simp
    rw [e]; unfold wtS; simp only [List.length_cons]; omega
theorem segW_len (hN : N ≤ 3000) (hE : ∀ e, W e → (E e).length + 10 ≤ 20000 * w e) {s : SegT} (h : ∀ y ∈ s.sels, WfS (SS N) W y) : (segW E s).length + 10 ≤ 20000 * wtG w s := by
  have h1 := joinW_len [44, 32] (selW E) s.sels
  have h2 := sum_le_mul 20000 (fun x => (selW E x).length + ([44, 32] : List UInt8).length) (wtS w) s.sels fun x hx => by
    have := selW_len hN hE (h x hx)
    simp only [List.length_cons, List.length_nil]; omega
  unfold segW wtG
  rw [List.length_append, List.length_cons, List.length_append]
  have h3 : (if s.deep = true then ([46, 46] : List UInt8) else []).length ≤ 2 := by split <;> simp
  simp only [List.length_cons, List.length_nil]
  omega
theorem pathW_len (hN : N ≤ 3000) (hE : ∀ e, W e → (E e).length + 10 ≤ 20000 * w e) {p : PathT} (h : WfP (SS N) W p) : (pathW E p).length + 10 ≤ 20000 * wtP w p := by
  have h2 := sum_le_mul 20000 (fun s => (segW E s).length) (wtG w) p.segs fun s hs => by
    have := segW_len hN hE (h s hs).2
    omega
  unfold pathW wtP
  rw [List.length_cons, List.length_flatMap]
  omega
theorem sideW_len (hN : N ≤ 3000) (hE : ∀ e, W e → (E e).length + 10 ≤ 20000 * w e) {x : SideT} (h : WfSide (SS N) W x) : (sideW E x).length + 10 ≤ 20000 * wtP w x.p := by
  have hp : 1 ≤ wtP w path0 := by unfold wtP; omega
  cases h with
  | path p a => exact pathW_len hN hE a
  | null => unfold sideW; simp; omega
  | tru => unfold sideW; simp; omega
  | fls => unfold sideW; simp; omega
  | num n a =>
    have := intL_len a
    have e : sideW E ⟨true, 2, n, [], path0⟩ = intL n := by unfold sideW; simp
    rw [e]; simp only; omega
  | str s a =>
    have := txtL_len 39 s
    have := a.1
    have e : sideW E ⟨true, 3, 0, s, path0⟩ = txtL 39 s := by unfold sideW; simp
    rw [e]; simp only; omega
end
theorem roundW_len (E : ExprT → List UInt8) (b : Bool) (x : ExprT) : (roundW E b x).length ≤ (E x).length + 2 := by
  unfold roundW; split <;> simp
theorem opB_len (op : Int) : (opB op).length ≤ 2 := by
  unfold opB; (repeat' split) <;> simp
theorem exprW_len {N : Nat} (hN : N ≤ 3000) : ∀ (n : Nat) (x : ExprT), WfN (SS N) n x → (exprW n x).length + 10 ≤ 20000 * wtN n x
  | 0, _, h => h.elim
  | n + 1, x, h => by
    have h' : WfX (SS N) (WfN (SS N) n) x := h
    have ih := exprW_len hN n
    have hk : ∀ (b : ExprT → Bool) (sep : List UInt8) (l : List ExprT), sep.length = 4 → (∀ k ∈ l, WfN (SS N) n k) → (joinW sep (fun k => roundW (exprW n) (b k) k) l).length ≤ 20000 * (l.map (wtN n)).sum := fun b sep l hs hl => by
      refine Nat.le_trans (joinW_len _ _ l) (sum_le_mul 20000 _ (wtN n) l fun k hk => ?_)
      have h1 := ih k (hl k hk)
      have h2 := roundW_len (exprW n) (b k) k
      omega
    have hp0 : ∀ p : PathT, 1 ≤ wtP (wtN n) p := fun p => by unfold wtP; omega
    rw [exprW, wtN]
    cases h' with
    | or l a b =>
      have := hk (fun k => k.kind == 0) [32, 124, 124, 32] l rfl b
      have := hp0 path0
      rw [if_pos (show (mkE 0 l).kind = 0 from rfl)]; simp only [mkE, side0]; omega
    | and l a b =>
      have := hk (fun k => k.kind == 0 || k.kind == 1) [32, 38, 38, 32] l rfl b
      have := hp0 path0
      rw [if_neg (by simp [mkE]), if_pos (show (mkE 1 l).kind = 1 from rfl)]; simp only [mkE, side0]; omega
    | not k a =>
      have h1 := ih k a
      have h2 := roundW_len (exprW n) (k.kind != 3) k
      have := hp0 path0
      rw [if_neg (by simp [mkE]), if_neg (by simp [mkE]), if_pos (show (mkE 2 [k]).kind = 2 from rfl)]; simp only [mkE, side0, List.length_cons, List.map_cons, List.map_nil, List.sum_cons, List.sum_nil]; omega
    | test p a =>
      have := pathW_len hN ih a
      have := hp0 path0
      rw [if_neg (by simp [tstE]), if_neg (by simp [tstE]), if_neg (by simp [tstE]), if_pos (show (tstE p).kind = 3 from rfl)]; simp only [tstE, side0]; omega
    | cmp op a b a1 a2 a3 a4 a5 a6 =>
      have := sideW_len hN ih a3
      have := sideW_len hN ih a4
      have := opB_len op
      have := hp0 path0
      rw [if_neg (by simp), if_neg (by simp), if_neg (by simp), if_neg (by simp)]; simp only [List.length_append, List.length_cons]; omega
theorem showT_len {N : Nat} (hN : N ≤ 3000) {p : PathT} (h : WfP (SS N) (WfN (SS N) 200) p) : (showT p).length + 10 ≤ 20000 * wtP (wtN 200) p := pathW_len hN (exprW_len hN 200) h

end

end Go.Proofs.YtpcbcodmocmilaaGreatDoor
