/- ref10: a number's value, plain. -/
import Derived.Test.YtdfamphnilelnaaDoorNe
import Derived.Test.YtdfamphnilelnaaDoorNf
namespace Go.Proofs.YtdfamphnilelnaaDoor
open Go.RowKit

def dI (l : L8) : List Int := l.map (fun c => (c.toNat : Int) - 48)
def foldR (n : Int) : L8 → Int
  | [] => n
  | c :: r => foldR (if 1000000000000 < n * 10 + (c.toNat : Int) - 48 then 1000000000000 else n * 10 + (c.toNat : Int) - 48) r
def expR (e : L8) : Int :=
  if e = [] then 0 else if hd e 45 then -(foldR 0 (e.drop 1)) else if hd e 43 then foldR 0 (e.drop 1) else foldR 0 e
theorem spl5_eq (m : Bool) (w f l : L8) : spl5 m w f l = if ((if hd l 45 || hd l 43 then l.drop 1 else l) ≠ [] ∧ digN (if hd l 45 || hd l 43 then l.drop 1 else l) = (if hd l 45 || hd l 43 then l.drop 1 else l).length) then some ⟨m, w, f, l⟩ else none := by
  unfold spl5; rw [Bool.or_comm]
theorem expR_eq (l : L8) : expR l = if hd l 45 then -(foldR 0 (if hd l 45 || hd l 43 then l.drop 1 else l)) else foldR 0 (if hd l 45 || hd l 43 then l.drop 1 else l) := by
  unfold expR
  cases l with
  | nil => rfl
  | cons c r =>
    rw [if_neg (by simp)]
    cases hd (c :: r) 45 <;> cases hd (c :: r) 43 <;> rfl
theorem powI_eq (l : L8) : powI l = if hd l 45 then -(foldE far 0 (if hd l 45 || hd l 43 then l.drop 1 else l)) else foldE far 0 (if hd l 45 || hd l 43 then l.drop 1 else l) := by
  unfold powI
  cases l with
  | nil => rfl
  | cons c r =>
    rw [if_neg (by simp)]
    cases hd (c :: r) 45 <;> cases hd (c :: r) 43 <;> rfl

/-- What splits has digits. -/
theorem take_dig : ∀ l : L8, (l.take (digN l)).all isDig = true
  | [] => rfl
  | c :: r => by
    rw [digN]; split
    · rename_i h; simp only [List.take_succ_cons, List.all_cons, h, Bool.true_and]; exact take_dig r
    · rfl
theorem all_dig (l : L8) (h : digN l = l.length) : l.all isDig = true := by
  have := take_dig l; rw [h, List.take_length] at this; exact this
def strip (l : L8) : L8 := if hd l 45 || hd l 43 then l.drop 1 else l
theorem split_dig {l : L8} {x : NP} (h : splitL l = some x) : x.w.all isDig = true ∧ x.f.all isDig = true ∧ (strip x.e).all isDig = true ∧ x.w ≠ [] := by
  have h5 : ∀ {m w f l}, spl5 m w f l = some x → x.w = w ∧ x.f = f ∧ (strip x.e).all isDig = true := by
    intro m w f l h
    rw [spl5_eq] at h
    have key : ∀ {c : Prop} [Decidable c] {y : NP}, (if c then some y else none) = some x → c ∧ y = x := by
      intro c _ y h; split at h
      · rename_i hc; cases h; exact ⟨hc, rfl⟩
      · cases h
    obtain ⟨hc, e⟩ := key h
    subst e; exact ⟨rfl, rfl, all_dig _ hc.2⟩
  have h4 : ∀ {m w f l}, spl4 m w f l = some x → x.w = w ∧ x.f = f ∧ (strip x.e).all isDig = true := by
    intro m w f l h; unfold spl4 at h; split at h
    · cases h; exact ⟨rfl, rfl, rfl⟩
    · split at h
      · exact h5 h
      · cases h
  have h3 : ∀ {m w l}, spl3 m w l = some x → x.w = w ∧ x.f.all isDig = true ∧ (strip x.e).all isDig = true := by
    intro m w l h; unfold spl3 at h; split at h
    · split at h
      · cases h
      · obtain ⟨a, b, c⟩ := h4 h
        exact ⟨a, by rw [b]; exact take_dig _, c⟩
    · obtain ⟨a, b, c⟩ := h4 h; exact ⟨a, by rw [b]; rfl, c⟩
  have h2 : ∀ {m l}, spl2 m l = some x → x.w.all isDig = true ∧ x.f.all isDig = true ∧ (strip x.e).all isDig = true ∧ x.w ≠ [] := by
    intro m l h; unfold spl2 at h; split at h
    · cases h
    · rename_i hb
      obtain ⟨a, b, c⟩ := h3 h
      refine ⟨by rw [a]; exact take_dig _, b, c, ?_⟩
      rw [a]; intro e
      apply hb
      have hl := digN_le l
      have e2 : (l.take (digN l)).length = 0 := by rw [e]; rfl
      rw [List.length_take] at e2
      have : digN l = 0 := by omega
      unfold badI; rw [this]; rfl
  unfold splitL at h; split at h <;> exact h2 h

/-- The exponents agree, or both are far out. -/
theorem dig_bd {c : UInt8} (h : isDig c = true) : 48 ≤ (c.toNat : Int) ∧ (c.toNat : Int) ≤ 57 := (dig_int c).1 h
def Same (a b : Int) : Prop := a = b ∨ (1000000000000 ≤ a ∧ 1000000000000 ≤ b)
theorem fold_same : ∀ (l : L8) (n k : Int), l.all isDig = true → 0 ≤ n → 0 ≤ k → Same n k → Same (foldE far n l) (foldR k l)
  | [], n, k, _, _, _, h => h
  | c :: r, n, k, hd, hn, hk, h => by
    simp only [List.all_cons, Bool.and_eq_true] at hd
    have hb := dig_bd hd.1
    rw [foldE, foldR]
    unfold far at *
    refine fold_same r _ _ hd.2 (by split <;> omega) (by split <;> omega) ?_
    rcases h with h | h
    · subst h
      unfold Same
      split <;> split <;> omega
    · unfold Same
      split <;> split <;> omega
theorem foldR_nn : ∀ (l : L8) (n : Int), l.all isDig = true → 0 ≤ n → 0 ≤ foldR n l
  | [], _, _, h => h
  | c :: r, n, hd, hn => by
    simp only [List.all_cons, Bool.and_eq_true] at hd
    have hb := dig_bd hd.1
    rw [foldR]; exact foldR_nn r _ hd.2 (by split <;> omega)
theorem foldR_le : ∀ (l : L8) (n : Int), n ≤ 1000000000000 → foldR n l ≤ 1000000000000
  | [], _, h => h
  | c :: r, n, hn => by rw [foldR]; exact foldR_le r _ (by split <;> omega)
theorem expR_bd (e : L8) (h : (strip e).all isDig = true) : -1000000000000 ≤ expR e ∧ expR e ≤ 1000000000000 := by
  rw [expR_eq]
  have a := foldR_nn (strip e) 0 h (by omega)
  have b := foldR_le (strip e) 0 (by omega)
  unfold strip at a b
  split <;> omega
/-- Of the exponents. -/
theorem exp_same (e : L8) (h : (strip e).all isDig = true) : powI e = expR e ∨ (1000000000000 ≤ powI e ∧ 1000000000000 ≤ expR e) ∨ (powI e ≤ -1000000000000 ∧ expR e ≤ -1000000000000) := by
  have := fold_same (strip e) 0 0 h (by omega) (by omega) (.inl rfl)
  have e1 : powI e = if hd e 45 then -(foldE far 0 (strip e)) else foldE far 0 (strip e) := powI_eq e
  have e2 : expR e = if hd e 45 then -(foldR 0 (strip e)) else foldR 0 (strip e) := expR_eq e
  rw [e1, e2]
  generalize foldE far 0 (strip e) = a at *
  generalize foldR 0 (strip e) = b at *
  unfold Same at this
  cases hd e 45
  · rw [if_neg (by decide), if_neg (by decide)]; omega
  · rw [if_pos rfl, if_pos rfl]; omega

/-- Noughts ahead and behind. -/
theorem tF_drop : ∀ l : L8, tF l = l.drop (lz (dI l)) 
  | [] => rfl
  | c :: r => by
    have e : ((c.toNat : Int) - 48 = 0) ↔ c = 48 := by
      rw [← UInt8.toNat_inj]; have : (48 : UInt8).toNat = 48 := rfl; omega
    rw [tF]
    by_cases hc : c = 48
    · rw [if_pos hc, tF_drop r]
      have : lz (dI (c :: r)) = lz (dI r) + 1 := by show (if (c.toNat : Int) - 48 = 0 then lz (dI r) + 1 else 0) = _; rw [if_pos (e.2 hc)]
      rw [this]; rfl
    · rw [if_neg hc]
      have : lz (dI (c :: r)) = 0 := by show (if (c.toNat : Int) - 48 = 0 then lz (dI r) + 1 else 0) = _; rw [if_neg (fun h => hc (e.1 h))]
      rw [this]; rfl
theorem dI_len (l : L8) : (dI l).length = l.length := by simp [dI]
theorem dI_rev (l : L8) : dI l.reverse = (dI l).reverse := by simp [dI]
theorem tB_take (l : L8) : tB l = l.take (l.length - tz (dI l)) := by
  unfold tB tz
  rw [tF_drop, dI_rev]
  rw [List.reverse_drop, List.reverse_reverse, List.length_reverse]

end Go.Proofs.YtdfamphnilelnaaDoor
