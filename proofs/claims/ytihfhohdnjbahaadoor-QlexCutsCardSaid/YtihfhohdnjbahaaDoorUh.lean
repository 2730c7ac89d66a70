/- qlex: what stands behind a blank changes no token ahead of it; plain. -/
import Derived.Test.YtihfhohdnjbahaaDoorUg
namespace Go.Proofs.YtihfhohdnjbahaaDoor

theorem Bnd_lt {r : List UInt8} (h : Bnd r) : r = [] ∨ ∃ c q, r = c :: q ∧ (c.toNat : Int) < 128 := by
  rcases h with rfl | ⟨c, q, rfl, hc⟩
  · exact .inl rfl
  · refine .inr ⟨c, q, rfl, ?_⟩
    rcases isBk_val hc with rfl | rfl | rfl | rfl <;> decide
theorem scalV_app (p r : List UInt8) (hp : p ≠ []) (h : Bnd r) : scalV (p ++ r) = scalV p := by
  rcases Bnd_lt h with rfl | ⟨c, q, rfl, hc⟩
  · rw [List.append_nil]
  · have hk : ∀ lo hi : Int, 128 ≤ lo → ¬ (lo ≤ (c.toNat : Int) ∧ (c.toNat : Int) ≤ hi) := fun lo hi h1 h2 => by omega
    match p, hp with
    | [b0], _ =>
      show scalV (b0 :: c :: q) = _
      unfold scalV
      simp only
      split
      · rfl
      split
      · rw [if_neg (by omega)]
      split
      · cases q with
        | nil => rfl
        | cons d q => simp only; rw [if_neg (fun hh => by have := hh.1; split at this <;> omega)]
      split
      · cases q with
        | nil => rfl
        | cons d q =>
          cases q with
          | nil => rfl
          | cons e q => simp only; rw [if_neg (fun hh => by have := hh.1; split at this <;> omega)]
      · rfl
    | [b0, b1], _ =>
      show scalV (b0 :: b1 :: c :: q) = _
      unfold scalV
      simp only
      split
      · rfl
      split
      · rfl
      split
      · rw [if_neg (fun hh => by have := hh.2.2.1; omega)]
      split
      · cases q with
        | nil => rfl
        | cons d q => simp only; rw [if_neg (fun hh => by have := hh.2.2.1; omega)]
      · rfl
    | [b0, b1, b2], _ =>
      show scalV (b0 :: b1 :: b2 :: c :: q) = _
      unfold scalV
      simp only
      split
      · rfl
      split
      · rfl
      split
      · rfl
      split
      · rw [if_neg (fun hh => by have := hh.2.2.2.2.1; omega)]
      · rfl
    | b0 :: b1 :: b2 :: b3 :: u, _ => rfl
theorem letL_app (p r : List UInt8) (hp : p ≠ []) (h : Bnd r) : letL (p ++ r) = letL p := by
  unfold letL; rw [scalV_app p r hp h]
theorem letR_app (p r : List UInt8) (h : Bnd r) : letR (p ++ r) = letR p := by
  cases p with
  | nil => exact Bnd_letR h
  | cons c q => unfold letR; rw [letL_app _ r (by simp) h]; rfl
theorem namF_app : ∀ (f f' : Nat) (p r : List UInt8), Bnd r → p.length ≤ f → p.length ≤ f' → namF f (p ++ r) = namF f' p
  | 0, f', p, r, hr, h, _ => by
    have : p = [] := List.eq_nil_of_length_eq_zero (by omega)
    subst this
    rw [List.nil_append, namF_zero _ _ (show letR [] = 0 from rfl), namF_zero _ _ (Bnd_letR hr)]
  | f + 1, f', p, r, hr, h, h' => by
    by_cases h0 : letR p = 0
    · rw [namF_zero _ _ h0, namF_zero _ _ (by rw [letR_app p r hr]; exact h0)]
    · have hle := letR_le p
      obtain ⟨g, rfl⟩ : ∃ g, f' = g + 1 := ⟨f' - 1, by omega⟩
      rw [namF, namF, letR_app p r hr, if_neg h0, if_neg h0, List.drop_append_of_le_length hle, namF_app f g _ r hr (by rw [List.length_drop]; omega) (by rw [List.length_drop]; omega)]
theorem nameL_app (p r : List UInt8) (hp : p ≠ []) (h : Bnd r) : nameL (p ++ r) = nameL p := by
  unfold nameL
  rw [letL_app p r hp h]
  split
  · rfl
  · rw [List.drop_append_of_le_length (letL_le p), namF_app (p ++ r).length p.length _ r h (by rw [List.length_append, List.length_drop]; omega) (by rw [List.length_drop]; omega)]
theorem digN_app : ∀ (p r : List UInt8), Bnd r → digN (p ++ r) = digN p
  | [], r, h => Bnd_dig h
  | c :: q, r, h => by
    show digN (c :: (q ++ r)) = _
    rw [digN, digN, digN_app q r h]
theorem hd_app (p r : List UInt8) (c : UInt8) (h : Bnd r) (hc : isBk c = false) : hd (p ++ r) c = hd p c := by
  cases p with
  | nil =>
    rcases h with rfl | ⟨d, q, rfl, hd'⟩
    · rfl
    · show (d == c) = false
      rw [beq_eq_false_iff_ne]
      rintro rfl
      rw [hc] at hd'; cases hd'
  | cons d q => rfl
theorem take_app (p r : List UInt8) (n : Nat) (h : n ≤ p.length) : (p ++ r).take n = p.take n := List.take_append_of_le_length h
theorem numT_app (p r : List UInt8) (h : Bnd r) : numT (p ++ r) = numT p := by
  unfold numT
  rw [hd_app p r 45 h (by decide)]
  have hm : (if hd p 45 = true then 1 else 0) ≤ p.length := by
    split
    · rename_i hh; cases p with
      | nil => cases hh
      | cons => simp
    · omega
  obtain ⟨m, he⟩ : ∃ m, (if hd p 45 = true then 1 else 0) = m := ⟨_, rfl⟩
  rw [he] at hm ⊢
  rw [List.drop_append_of_le_length hm, digN_app _ r h, hd_app _ r 48 h (by decide), take_app _ r _ (digN_le _)]
  by_cases hs : hd p 45 = true
  · rw [if_pos hs] at he ⊢
    subst he
    rw [if_pos hs, List.drop_append_of_le_length hm, digN_app _ r h, take_app _ r _ (digN_le _)]
  · rw [if_neg hs, if_neg hs, digN_app _ r h, take_app _ r _ (digN_le _)]
theorem find_congr {α : Type} {P Q : α → Bool} : ∀ (l : List α), (∀ x ∈ l, P x = Q x) → l.find? P = l.find? Q
  | [], _ => rfl
  | x :: l, h => by
    rw [List.find?_cons, List.find?_cons, h x (by simp), find_congr l (fun y hy => h y (by simp [hy]))]
theorem signs_nb : ∀ x ∈ signsL, ∀ c ∈ x, isBk c = false := by decide
theorem sign_app (p r : List UInt8) (h : Bnd r) : signsL.find? (fun x => (p ++ r).take x.length == x) = signsL.find? (fun x => p.take x.length == x) := by
  refine find_congr _ fun x hx => ?_
  by_cases hl : x.length ≤ p.length
  · rw [take_app _ _ _ hl]
  · have hlen : p.take x.length ≠ x := fun e => by have := congrArg List.length e; rw [List.length_take] at this; omega
    have h2 : (p ++ r).take x.length ≠ x := fun e => by
      rcases h with rfl | ⟨c, q, rfl, hc⟩
      · rw [List.append_nil] at e; exact hlen e
      · have hm : c ∈ x := by
          rw [← e, List.take_append]
          obtain ⟨d, hd⟩ : ∃ d, x.length - p.length = d + 1 := ⟨x.length - p.length - 1, by omega⟩
          rw [hd]; simp
        rw [signs_nb x hx c hm] at hc; cases hc
    rw [beq_eq_false_iff_ne.2 hlen, beq_eq_false_iff_ne.2 h2]
/-- With a blank behind. -/
theorem tokT_app (p r : List UInt8) (h : Bnd r) (k : Int) (t : List UInt8) (v : Int) (n : Nat) (ht : tokT p = .ok (k, t, v, n)) : tokT (p ++ r) = .ok (k, t, v, n) := by
  cases p with
  | nil => cases ht
  | cons c q =>
    show tokT (c :: (q ++ r)) = _
    unfold tokT at ht ⊢
    simp only at ht ⊢
    by_cases h1 : c = 34 ∨ c = 39
    · rw [if_pos h1] at ht ⊢
      cases hx : txtF (q.length + 1) c q with
      | none => rw [hx] at ht; cases ht
      | some tn =>
        obtain ⟨t', m⟩ := tn
        rw [hx] at ht
        have hm := txtF_len _ _ _ _ _ hx
        have := txtF_loc _ c q t' m hx (q.drop m ++ r) ((q ++ r).length + 1) (by rw [List.length_append]; omega)
        rw [← List.append_assoc, List.take_append_drop] at this
        rw [this]; exact ht
    · rw [if_neg h1] at ht ⊢
      by_cases h2 : isDig c = true ∨ c = 45
      · rw [if_pos h2] at ht ⊢
        have := numT_app (c :: q) r h
        rw [List.cons_append] at this
        rw [this]; exact ht
      · rw [if_neg h2] at ht ⊢
        have hn := nameL_app (c :: q) r (by simp) h
        have hs := sign_app (c :: q) r h
        rw [List.cons_append] at hn hs
        rw [hn, hs]
        have ht2 : (c :: (q ++ r)).take (nameL (c :: q)) = (c :: q).take (nameL (c :: q)) := take_app (c :: q) r _ (nameL_le _)
        rw [ht2]; exact ht
theorem tokT_back (p r : List UInt8) (h : Bnd r) (hp : p ≠ []) (k : Int) (t : List UInt8) (v : Int) (n : Nat) (ht : tokT (p ++ r) = .ok (k, t, v, n)) (hn' : n ≤ p.length) : tokT p = .ok (k, t, v, n) := by
  cases p with
  | nil => exact absurd rfl hp
  | cons c q =>
    rw [List.cons_append] at ht
    unfold tokT at ht ⊢
    simp only at ht ⊢
    by_cases h1 : c = 34 ∨ c = 39
    · rw [if_pos h1] at ht ⊢
      cases hx : txtF ((q ++ r).length + 1) c (q ++ r) with
      | none => rw [hx] at ht; cases ht
      | some tn =>
        obtain ⟨t', m⟩ := tn
        rw [hx] at ht
        have hmn : m + 1 = n := by simp only [Except.ok.injEq, Prod.mk.injEq] at ht; exact ht.2.2.2
        rw [List.length_cons] at hn'
        have := txtF_loc _ c (q ++ r) t' m hx (q.drop m) (q.length + 1) (by omega)
        rw [take_app _ _ _ (by omega), List.take_append_drop] at this
        rw [this]; exact ht
    · rw [if_neg h1] at ht ⊢
      by_cases h2 : isDig c = true ∨ c = 45
      · rw [if_pos h2] at ht ⊢
        have := numT_app (c :: q) r h
        rw [List.cons_append] at this
        rw [this] at ht; exact ht
      · rw [if_neg h2] at ht ⊢
        have hn := nameL_app (c :: q) r (by simp) h
        have hs := sign_app (c :: q) r h
        rw [List.cons_append] at hn hs
        rw [hn, hs] at ht
        have ht2 : (c :: (q ++ r)).take (nameL (c :: q)) = (c :: q).take (nameL (c :: q)) := take_app (c :: q) r _ (nameL_le _)
        rw [ht2] at ht; exact ht
theorem bkN_app : ∀ (p r : List UInt8), p.drop (bkN p) ≠ [] → bkN (p ++ r) = bkN p
  | [], _, h => absurd rfl h
  | c :: q, r, h => by
    show bkN (c :: (q ++ r)) = _
    unfold bkN at h ⊢
    split
    · rename_i hc
      rw [if_pos hc, List.drop_succ_cons] at h
      rw [bkN_app q r h]
    · rfl
theorem bkN_zero {u : List UInt8} (h : u.drop (bkN u) ≠ []) : bkN (u.drop (bkN u)) = 0 := by
  induction u with
  | nil => rfl
  | cons c q ih =>
    by_cases hc : isBk c = true
    · have e : bkN (c :: q) = bkN q + 1 := by rw [bkN, if_pos hc]
      rw [e, List.drop_succ_cons] at h ⊢
      exact ih h
    · have e : bkN (c :: q) = 0 := by rw [bkN, if_neg hc]
      rw [e]; exact e
theorem lexF_fuel : ∀ (f f' a : Nat) (u : List UInt8), u.length < f → u.length < f' → lexF f a u = lexF f' a u
  | 0, _, _, _, h, _ => absurd h (by omega)
  | f + 1, 0, _, _, _, h => absurd h (by omega)
  | f + 1, f' + 1, a, u, h, h' => by
    by_cases hu : u = []
    · rw [hu, lexF_nil, lexF_nil]
    · rw [lexF_step f a u hu, lexF_step f' a u hu]
      split
      · rfl
      · cases ht : tokT (u.drop (bkN u)) with
        | error e => rfl
        | ok x =>
          obtain ⟨k, t, v, n⟩ := x
          obtain ⟨hn, hl, -⟩ := tokT_ok _ k t v n ht
          simp only
          have hb := bkN_le u
          rw [List.length_drop] at hl
          rw [lexF_fuel f f' _ _ (by rw [List.length_drop, List.length_drop]; omega) (by rw [List.length_drop, List.length_drop]; omega)]
/-- What one round that goes well says. -/
theorem lexF_inv {f a : Nat} {u : List UInt8} {l : List TokD} (hu : u ≠ []) (h : lexF (f + 1) a u = .ok l) :
    ∃ k t v n r, ¬ (0 < bkN u ∧ (a = 0 ∨ u.drop (bkN u) = [])) ∧ u.drop (bkN u) ≠ [] ∧ tokT (u.drop (bkN u)) = .ok (k, t, v, n) ∧ 0 < n ∧ n ≤ (u.drop (bkN u)).length ∧ bkN u + n ≤ u.length ∧
      lexF f (a + bkN u + n) (u.drop (bkN u + n)) = .ok r ∧ l = ⟨k, t, v, a + bkN u, decide (0 < bkN u)⟩ :: r := by
  rw [lexF_step f a u hu] at h
  by_cases hc : 0 < bkN u ∧ (a = 0 ∨ u.drop (bkN u) = [])
  · rw [if_pos hc] at h; cases h
  · rw [if_neg hc] at h
    cases ht : tokT (u.drop (bkN u)) with
    | error e => rw [ht] at h; cases h
    | ok x =>
      obtain ⟨k, t, v, n⟩ := x
      obtain ⟨hn, hl, -⟩ := tokT_ok _ k t v n ht
      rw [ht] at h
      simp only at h
      have hne := rest_ne u a hu hc
      have hb := bkN_lt u hne
      cases hr : lexF f (a + bkN u + n) ((u.drop (bkN u)).drop n) with
      | error e => rw [hr] at h; cases h
      | ok r =>
        rw [hr] at h
        cases h
        rw [List.drop_drop] at hr
        exact ⟨k, t, v, n, r, hc, hne, rfl, hn, hl, by rw [List.length_drop] at hl; omega, hr, rfl⟩
theorem lexF_mk {f a : Nat} {u : List UInt8} {g : Nat} {k : Int} {t : List UInt8} {v : Int} {n : Nat} {r : List TokD} (hu : u ≠ []) (hg : bkN u = g) (hc : ¬ (0 < g ∧ (a = 0 ∨ u.drop g = []))) (ht : tokT (u.drop g) = .ok (k, t, v, n)) (hr : lexF f (a + g + n) (u.drop (g + n)) = .ok r) :
    lexF (f + 1) a u = .ok (⟨k, t, v, a + g, decide (0 < g)⟩ :: r) := by
  rw [lexF_step f a u hu, hg, if_neg hc, ht]
  simp only
  rw [List.drop_drop, hr]
/-- Two texts, the second one behind a blank. -/
theorem lexF_two (q : List UInt8) (m : List TokD) (A f2 : Nat) (hq : Bnd q) (h2 : lexF f2 A q = .ok m) (hf2 : q.length < f2) : ∀ (f a : Nat) (p : List UInt8) (l : List TokD), a + p.length = A → p.length < f → lexF f a p = .ok l → ∀ F, (p ++ q).length < F → lexF F a (p ++ q) = .ok (l ++ m)
  | 0, _, _, _, _, h, _, _, _ => absurd h (by omega)
  | f + 1, a, p, l, ha, hf, h, F, hF => by
    by_cases hp : p = []
    · subst hp
      rw [lexF_nil] at h
      cases h
      simp only [List.length_nil, Nat.add_zero] at ha
      subst ha
      simp only [List.nil_append] at hF ⊢
      rw [lexF_fuel F f2 _ _ hF hf2]; exact h2
    · obtain ⟨k, t, v, n, r, hc, hne, ht, hn, hl, hbn, hr, rfl⟩ := lexF_inv hp h
      obtain ⟨F', rfl⟩ : ∃ F', F = F' + 1 := ⟨F - 1, by omega⟩
      have hd1 : (p ++ q).drop (bkN p) = p.drop (bkN p) ++ q := List.drop_append_of_le_length (bkN_le p)
      have hd2 : (p ++ q).drop (bkN p + n) = p.drop (bkN p + n) ++ q := List.drop_append_of_le_length hbn
      have hrec := lexF_two q m A f2 hq h2 hf2 f (a + bkN p + n) (p.drop (bkN p + n)) r (by rw [List.length_drop]; omega) (by rw [List.length_drop]; omega) hr F' (by rw [List.length_append, List.length_drop]; rw [List.length_append] at hF; omega)
      exact lexF_mk (by simp [hp]) (bkN_app p q hne) (fun hh => hc ⟨hh.1, hh.2.imp id fun e => by rw [hd1] at e; exact (List.append_eq_nil_iff.1 e).1⟩) (by rw [hd1]; exact tokT_app _ q hq _ _ _ _ ht) (by rw [hd2]; exact hrec)
/-- A token so many places later. -/
def shT (d : Nat) (x : TokD) : TokD := ⟨x.kind, x.s, x.n, x.at_ + d, x.gap⟩
theorem lexF_shift (d : Nat) : ∀ (f a : Nat) (u : List UInt8) (l : List TokD), (a = 0 → bkN u = 0) → lexF f a u = .ok l → lexF f (a + d) u = .ok (l.map (shT d))
  | 0, _, _, _, _, h => by simp [lexF] at h ⊢; subst h; rfl
  | f + 1, a, u, l, h0, h => by
    by_cases hu : u = []
    · subst hu; rw [lexF_nil] at h ⊢; cases h; rfl
    · obtain ⟨k, t, v, n, r, hc, hne, ht, hn, hl, hbn, hr, rfl⟩ := lexF_inv hu h
      have hrec := lexF_shift d f (a + bkN u + n) (u.drop (bkN u + n)) r (by omega) hr
      have e := lexF_mk (f := f) (a := a + d) (r := r.map (shT d)) hu rfl (fun hh => hc ⟨hh.1, hh.2.imp (fun e => by omega) id⟩) ht (by rw [show a + d + bkN u + n = a + bkN u + n + d by omega]; exact hrec)
      rw [e, List.map_cons]
      have : a + d + bkN u = a + bkN u + d := by omega
      rw [this]; rfl
theorem lexL_inv {l : List UInt8} {m : List TokD} (h : lexL l = .ok m) : l.length ≤ 4096 ∧ m ≠ [] ∧ lexF (l.length + 1) 0 l = .ok m := by
  unfold lexL at h
  split at h
  · cases h
  · rename_i hl
    split at h
    · cases h
    · cases h
    · rename_i r hr hf
      cases h
      exact ⟨by omega, hr, hf⟩
theorem lexL_mk {l : List UInt8} {m : List TokD} (hl : l.length ≤ 4096) (hm : m ≠ []) (h : lexF (l.length + 1) 0 l = .ok m) : lexL l = .ok m := by
  unfold lexL
  rw [if_neg (by omega), h]
  cases m with
  | nil => exact absurd rfl hm
  | cons => rfl
/-- What QlexTwo puts together. -/
def twoT (d : Nat) (m : List TokD) : List TokD := m.mapIdx fun i x => ⟨x.kind, x.s, x.n, x.at_ + d, x.gap || decide (i = 0)⟩
theorem twoT_cons (d : Nat) (x : TokD) (m : List TokD) : twoT d (x :: m) = ⟨x.kind, x.s, x.n, x.at_ + d, true⟩ :: m.map (shT d) := by
  unfold twoT
  rw [List.mapIdx_cons]
  refine congr (by simp) ?_
  refine List.ext_getElem (by simp) fun i h1 h2 => ?_
  simp [shT]
theorem lex_two {s t : List UInt8} {l m : List TokD} (hs : lexL s = .ok l) (ht : lexL t = .ok m) (hlen : s.length + t.length + 1 ≤ 4096) : lexL (s ++ 32 :: t) = .ok (l ++ twoT (s.length + 1) m) := by
  obtain ⟨-, hl, hfs⟩ := lexL_inv hs
  obtain ⟨-, hm, hft⟩ := lexL_inv ht
  have hsn : s ≠ [] := by rintro rfl; rw [lexF_nil] at hfs; cases hfs; exact hl rfl
  have htn : t ≠ [] := by rintro rfl; rw [lexF_nil] at hft; cases hft; exact hm rfl
  refine lexL_mk (by simp; omega) (by simp [hl]) ?_
  refine lexF_two (32 :: t) (twoT (s.length + 1) m) s.length (t.length + 2) (.inr ⟨32, t, rfl, rfl⟩) ?_ (by simp) _ 0 s l (by omega) (Nat.lt_succ_self _) hfs _ (by simp)
  obtain ⟨k, x, v, n, r, hc, hne, htk, hn, hl2, hbn, hr, rfl⟩ := lexF_inv htn hft
  have hb0 : bkN t = 0 := Classical.byContradiction fun h => hc ⟨by omega, .inl rfl⟩
  rw [hb0] at htk hr ⊢
  rw [twoT_cons]
  have hsh := lexF_shift (s.length + 1) t.length (0 + 0 + n) (t.drop (0 + n)) r (by omega) hr
  have hb1 : bkN (32 :: t) = 1 := by rw [bkN, if_pos (by rfl), hb0]
  have hspos : 0 < s.length := List.length_pos_iff.2 hsn
  have e := lexF_mk (f := t.length + 1) (a := s.length) (u := 32 :: t) (g := 1) (k := k) (t := x) (v := v) (n := n) (r := r.map (shT (s.length + 1))) (by simp) hb1 (fun hh => hh.2.elim (fun e => by omega) (fun e => htn (by simpa using e))) (by simpa using htk)
    (by
      rw [show s.length + 1 + n = n + (s.length + 1) by omega, Nat.add_comm 1 n, List.drop_succ_cons]
      rw [Nat.zero_add n] at hsh
      rw [lexF_fuel (t.length + 1) t.length _ _ (by rw [List.length_drop]; omega) (by rw [List.length_drop]; omega), hsh])
  rw [e]
  simp

/-- Texts alike up to a blank. -/
def Alike (u v : List UInt8) : Prop := ∃ p q q', u = p ++ q ∧ v = p ++ q' ∧ Bnd q ∧ Bnd q'
theorem tokT_alike {u v : List UInt8} {k : Int} {t : List UInt8} {x : Int} {n : Nat} (h : Alike (u.drop n) v) (hn : 0 < n) (hl : n ≤ u.length) (ht : tokT u = .ok (k, t, x, n)) : tokT (u.take n ++ v) = .ok (k, t, x, n) := by
  obtain ⟨p, q, q', h1, h2, h3, h4⟩ := h
  have hu : u = (u.take n ++ p) ++ q := by rw [List.append_assoc, ← h1, List.take_append_drop]
  have hne : u.take n ++ p ≠ [] := by
    intro e
    have := congrArg List.length (List.append_eq_nil_iff.1 e).1
    rw [List.length_take, List.length_nil] at this; omega
  have hb : tokT (u.take n ++ p) = .ok (k, t, x, n) := tokT_back _ q h3 hne _ _ _ _ (by rw [← hu]; exact ht) (by rw [List.length_append, List.length_take]; omega)
  rw [h2, ← List.append_assoc]
  exact tokT_app _ q' h4 _ _ _ _ hb
/-- What QlexBlanks puts together. -/
def blkL (s : List UInt8) (b : List UInt8) : Nat → List TokD → List UInt8
  | last, [] => s.drop last
  | last, x :: r => if x.gap then (s.drop last).take (x.at_ - last) ++ (b ++ blkL s b x.at_ r) else blkL s b last r
/-- The same tokens, wherever they stand. -/
def SameT (x y : TokD) : Prop := x.kind = y.kind ∧ x.s = y.s ∧ x.n = y.n
def All2 : List TokD → List TokD → Prop
  | [], [] => True
  | x :: l, y :: m => SameT x y ∧ All2 l m
  | _, _ => False
theorem All2_len : ∀ {l m : List TokD}, All2 l m → l.length = m.length
  | [], [], _ => rfl
  | _ :: _, _ :: _, h => by rw [List.length_cons, List.length_cons, All2_len h.2]
  | [], _ :: _, h => h.elim
  | _ :: _, [], h => h.elim
theorem All2_get : ∀ {l m : List TokD}, All2 l m → ∀ (i : Nat) (x y : TokD), l[i]? = some x → m[i]? = some y → SameT x y
  | _ :: _, _ :: _, h, 0, _, _, h1, h2 => by cases h1; cases h2; exact h.1
  | _ :: _, _ :: _, h, i + 1, x, y, h1, h2 => All2_get h.2 i x y (by simpa using h1) (by simpa using h2)
  | [], _, _, _, _, _, h1, _ => by simp at h1
  | _ :: _, [], h, _, _, _, _, _ => h.elim
theorem bkN_rep (b u : List UInt8) (hb : ∀ c ∈ b, isBk c = true) : bkN (b ++ u) = b.length + bkN u := by
  induction b with
  | nil => simp
  | cons c q ih =>
    show bkN (c :: (q ++ u)) = _
    rw [bkN, if_pos (hb c (by simp)), ih (fun d hd => hb d (by simp [hd])), List.length_cons]; omega
theorem bkN_take (u : List UInt8) : ∀ c ∈ u.take (bkN u), isBk c = true := by
  induction u with
  | nil => simp [bkN]
  | cons c q ih =>
    unfold bkN
    split
    · rename_i hc
      intro d hd
      rw [List.take_succ_cons, List.mem_cons] at hd
      rcases hd with rfl | hd
      · exact hc
      · exact ih d hd
    · simp
theorem bkN_ne {u : List UInt8} (h : bkN u = 0) {v : List UInt8} {n : Nat} (hn : 0 < n) (hu : u ≠ []) : bkN (u.take n ++ v) = 0 := by
  obtain ⟨n, rfl⟩ : ∃ m, n = m + 1 := ⟨n - 1, by omega⟩
  cases u with
  | nil => exact absurd rfl hu
  | cons c q =>
    show bkN (c :: (q.take n ++ v)) = 0
    unfold bkN at h ⊢
    split at h
    · omega
    · rename_i hc; rw [if_neg hc]
theorem lexF_blank (s b : List UInt8) (hb : ∀ c ∈ b, isBk c = true) : ∀ (f a last : Nat) (toks : List TokD), last ≤ a → a ≤ s.length → s.length - a < f → lexF f a (s.drop a) = .ok toks →
    ∃ X, blkL s b last toks = (s.drop last).take (a - last) ++ X ∧ Alike (s.drop a) X ∧ X.length ≤ s.length - a + b.length * toks.length ∧ ∀ (a' F : Nat), (a = 0 → a' = 0) → (a' = 0 → a = 0) → X.length < F → ∃ toks', lexF F a' X = .ok toks' ∧ All2 toks toks'
  | 0, _, _, _, _, _, h, _ => absurd h (by omega)
  | f + 1, a, last, toks, hla, has, hf, h => by
    by_cases hu : s.drop a = []
    · have hal : a = s.length := by have := congrArg List.length hu; rw [List.length_drop, List.length_nil] at this; omega
      rw [hu, lexF_nil] at h
      cases h
      refine ⟨[], ?_, ⟨[], [], [], by rw [hu]; rfl, rfl, .inl rfl, .inl rfl⟩, by simp, fun a' F _ _ _ => ⟨[], by rw [lexF_nil], trivial⟩⟩
      rw [blkL, List.append_nil, List.take_of_length_le (by rw [List.length_drop]; omega)]
    · obtain ⟨k, t, v, n, r, hc, hne, ht, hn, hl, hbn, hr, rfl⟩ := lexF_inv hu h
      obtain ⟨g, hg⟩ : ∃ g, bkN (s.drop a) = g := ⟨_, rfl⟩
      rw [hg] at hc hne ht hl hbn hr ⊢
      rw [List.length_drop] at hbn
      rw [List.drop_drop] at hne ht hl hr
      have hrd : s.drop (a + (g + n)) = s.drop (a + g + n) := by rw [Nat.add_assoc]
      rw [hrd] at hr
      rw [List.drop_drop] at hc
      by_cases hg0 : g = 0
      · subst hg0
        obtain ⟨X, hX, hA, hXl, hL⟩ := lexF_blank s b hb f (a + 0 + n) last r (by omega) (by omega) (by omega) hr
        rw [Nat.add_zero] at hX hA hL ht hne hl hXl
        refine ⟨(s.drop a).take n ++ X, ?_, ?_, ?_, ?_⟩
        · rw [blkL, if_neg (by simp), hX, ← List.append_assoc]
          congr 1
          rw [show a + n - last = (a - last) + n by omega, List.take_add, List.drop_drop, show last + (a - last) = a by omega]
        · obtain ⟨p, q, q', h1, h2, h3, h4⟩ := hA
          refine ⟨(s.drop a).take n ++ p, q, q', ?_, by rw [h2, List.append_assoc], h3, h4⟩
          rw [List.append_assoc, ← h1, ← List.drop_drop, List.take_append_drop]
        · rw [List.length_append, List.length_take, List.length_cons, Nat.mul_succ]; omega
        · intro a' F h0 h0' hF
          rw [List.length_append, List.length_take, Nat.min_eq_left hl] at hF
          obtain ⟨F', rfl⟩ : ∃ F', F = F' + 1 := ⟨F - 1, by omega⟩
          obtain ⟨toks', hl1, hl2⟩ := hL (a' + 0 + n) F' (by omega) (by omega) (by omega)
          refine ⟨⟨k, t, v, a' + 0, decide (0 < 0)⟩ :: toks', ?_, ⟨⟨rfl, rfl, rfl⟩, hl2⟩⟩
          have htl : ((s.drop a).take n).length = n := by rw [List.length_take, Nat.min_eq_left hl]
          have htk := tokT_alike (v := X) (by rw [List.drop_drop]; exact hA) hn hl ht
          exact lexF_mk (by intro e; have := congrArg List.length (List.append_eq_nil_iff.1 e).1; rw [htl] at this; simp at this; omega) (bkN_ne hg hn hu) (by omega) (by simpa using htk)
            (by rw [Nat.zero_add, List.drop_left' htl]; exact hl1)
      · have ha0 : 0 < a := Nat.pos_of_ne_zero fun e => hc ⟨by omega, .inl e⟩
        obtain ⟨X, hX, hA, hXl, hL⟩ := lexF_blank s b hb f (a + g + n) (a + g) r (by omega) (by omega) (by omega) hr
        have hbl := bkN_take (s.drop a)
        rw [hg] at hbl
        have htg : ((s.drop a).take g).length = g := by rw [List.length_take, List.length_drop]; omega
        have htl : ((s.drop (a + g)).take n).length = n := by rw [List.length_take, Nat.min_eq_left hl]
        rw [show a + g + n - (a + g) = n by omega] at hX
        have hall : ∀ c ∈ (s.drop a).take g ++ b, isBk c = true := by
          intro c hc'; rcases List.mem_append.1 hc' with h1 | h1
          · exact hbl c h1
          · exact hb c h1
        refine ⟨((s.drop a).take g ++ b) ++ ((s.drop (a + g)).take n ++ X), ?_, ?_, ?_, ?_⟩
        · have ht' : (s.drop last).take (a + g - last) = (s.drop last).take (a - last) ++ (s.drop a).take g := by
            rw [show a + g - last = (a - last) + g by omega, List.take_add, List.drop_drop, show last + (a - last) = a by omega]
          rw [blkL, if_pos (by simp; omega), hX, ht']
          simp only [List.append_assoc]
        · obtain ⟨g', rfl⟩ : ∃ g', g = g' + 1 := ⟨g - 1, by omega⟩
          obtain ⟨c, q, hcq⟩ : ∃ c q, s.drop a = c :: q := by
            cases hh : s.drop a with
            | nil => exact absurd hh hu
            | cons c q => exact ⟨c, q, rfl⟩
          have hck : isBk c = true := hbl c (by rw [hcq]; simp)
          exact ⟨[], s.drop a, _, rfl, rfl, .inr ⟨c, q, hcq, hck⟩, .inr ⟨c, _, by rw [hcq, List.take_succ_cons]; rfl, hck⟩⟩
        · rw [List.length_append, List.length_append, List.length_append, htg, htl, List.length_cons, Nat.mul_succ]; omega
        · intro a' F h0 h0' hF
          rw [List.length_append, List.length_append, List.length_append, htg, htl] at hF
          obtain ⟨F', rfl⟩ : ∃ F', F = F' + 1 := ⟨F - 1, by omega⟩
          have hl2 : ((s.drop a).take g ++ b).length = g + b.length := by rw [List.length_append, htg]
          obtain ⟨toks', hl1, hls⟩ := hL (a' + (g + b.length) + n) F' (by omega) (by omega) (by omega)
          refine ⟨⟨k, t, v, a' + (g + b.length), decide (0 < g + b.length)⟩ :: toks', ?_, ⟨⟨rfl, rfl, rfl⟩, hls⟩⟩
          have htk := tokT_alike (v := X) (by rw [List.drop_drop]; exact hA) hn hl ht
          have hbk : bkN (((s.drop a).take g ++ b) ++ ((s.drop (a + g)).take n ++ X)) = g + b.length := by
            rw [bkN_rep _ _ hall, hl2]
            have hz : bkN (s.drop (a + g)) = 0 := by have := bkN_zero (u := s.drop a) (by rw [hg, List.drop_drop]; exact hne); rw [hg, List.drop_drop] at this; exact this
            rw [bkN_ne hz hn hne]
            rfl
          have hxn : (s.drop (a + g)).take n ++ X ≠ [] := by intro e; have := congrArg List.length (List.append_eq_nil_iff.1 e).1; rw [htl] at this; simp at this; omega
          exact lexF_mk (by intro e; exact hxn (List.append_eq_nil_iff.1 e).2) hbk (fun hh => hh.2.elim (fun e => by omega) (fun e => by rw [List.drop_left' hl2] at e; exact hxn e)) (by rw [List.drop_left' hl2]; exact htk)
            (by rw [← List.drop_drop, List.drop_left' hl2, List.drop_left' htl]; exact hl1)
theorem lex_blank {s b : List UInt8} {l : List TokD} (hs : lexL s = .ok l) (hb : ∀ c ∈ b, isBk c = true) (hlen : s.length + b.length * l.length ≤ 4096) : ∃ m, lexL (blkL s b 0 l) = .ok m ∧ All2 l m := by
  obtain ⟨-, hl, hf⟩ := lexL_inv hs
  obtain ⟨X, hX, -, hXl, hL⟩ := lexF_blank s b hb (s.length + 1) 0 0 l (Nat.le_refl _) (by omega) (by omega) hf
  rw [Nat.sub_self, List.take_zero, List.nil_append] at hX
  rw [hX]
  obtain ⟨m, h1, h2⟩ := hL 0 (X.length + 1) (fun _ => rfl) (fun _ => rfl) (by omega)
  refine ⟨m, lexL_mk (by omega) ?_ h1, h2⟩
  rintro rfl
  have := All2_len h2
  exact hl (List.eq_nil_of_length_eq_zero this)

end Go.Proofs.YtihfhohdnjbahaaDoor
