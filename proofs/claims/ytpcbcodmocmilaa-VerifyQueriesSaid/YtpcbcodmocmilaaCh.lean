/- Jumps laid, and turned once their place is known; rows written into (no word of a dump but the types'). -/
import Derived.Test.YtpcbcodmocmilaaCg
namespace Go.Proofs.Ytpcbcodmocmilaa
open Go.RowKit

section
variable {I : Nat → Nat → ExprT → List InsD} {L Wt : ExprT → Nat} {op : Int} {E : Nat}
theorem insK_cc (y z : ExprT) (r : List ExprT) (a b : Nat) : insK I L Wt op E a b (y :: z :: r) = I a b y ++ ⟨op, 0, 0, 0, 0, bs [], E⟩ :: insK I L Wt op E (a + L y + 1) (b + Wt y) (z :: r) := rfl
theorem lenK_cc (y z : ExprT) (r : List ExprT) : lenK L (y :: z :: r) = L y + (lenK L (z :: r) + 1) := rfl
theorem insK_snoc : ∀ (l : List ExprT) (x : ExprT) (a b : Nat), l ≠ [] → insK I L Wt op E a b (l ++ [x]) = insK I L Wt op E a b l ++ ⟨op, 0, 0, 0, 0, bs [], E⟩ :: I (a + lenK L l + 1) (b + (l.map Wt).sum) x
  | [], _, _, _, h => absurd rfl h
  | [y], x, a, b, _ => by simp [insK, lenK]
  | y :: z :: r, x, a, b, _ => by
    have := insK_snoc (z :: r) x (a + L y + 1) (b + Wt y) (by simp)
    rw [List.cons_append] at this
    rw [List.cons_append, List.cons_append, insK_cc, this, insK_cc, lenK_cc]
    simp only [List.append_assoc, List.cons_append, List.map_cons, List.sum_cons]
    rw [show a + L y + 1 + lenK L (z :: r) + 1 = a + (L y + (lenK L (z :: r) + 1)) + 1 by omega, show b + Wt y + (Wt z + (r.map Wt).sum) = b + (Wt y + (Wt z + (r.map Wt).sum)) by omega]
theorem lenK_snoc : ∀ (l : List ExprT) (x : ExprT), l ≠ [] → lenK L (l ++ [x]) = lenK L l + 1 + L x
  | [], _, h => absurd rfl h
  | [y], x, _ => by simp [lenK]; omega
  | y :: z :: r, x, _ => by
    have := lenK_snoc (z :: r) x (by simp)
    rw [List.cons_append] at this
    rw [List.cons_append, List.cons_append, lenK_cc, this, lenK_cc]
    omega
/-- The jumps' places. -/
def posK (L : ExprT → Nat) : Nat → List ExprT → List Nat
  | _, [] => []
  | a, x :: r => if r.isEmpty then [] else (a + L x) :: posK L (a + L x + 1) r
theorem posK_cc (y z : ExprT) (r : List ExprT) (a : Nat) : posK L a (y :: z :: r) = (a + L y) :: posK L (a + L y + 1) (z :: r) := rfl
theorem posK_snoc : ∀ (l : List ExprT) (x : ExprT) (a : Nat), l ≠ [] → posK L a (l ++ [x]) = posK L a l ++ [a + lenK L l]
  | [], _, _, h => absurd rfl h
  | [y], x, a, _ => by simp [posK, lenK]
  | y :: z :: r, x, a, _ => by
    have := posK_snoc (z :: r) x (a + L y + 1) (by simp)
    rw [List.cons_append] at this
    rw [List.cons_append, List.cons_append, posK_cc, this, posK_cc, lenK_cc, List.cons_append]
    rw [show a + L y + 1 + lenK L (z :: r) = a + (L y + (lenK L (z :: r) + 1)) by omega]
def toD (E : Nat) (y : InsD) : InsD := ⟨y.op, y.p, y.sign, y.kind, y.n, y.s, (E : Nat)⟩
/-- The jumps turned. -/
def patchL (E : Nat) : List Nat → List InsD → List InsD
  | [], l => l
  | p :: r, l => patchL E r (l.modify p (toD E))
theorem patchL_len (E : Nat) : ∀ (ps : List Nat) (l : List InsD), (patchL E ps l).length = l.length
  | [], _ => rfl
  | p :: r, l => by rw [patchL, patchL_len E r]; simp
theorem patchL_snoc (E : Nat) : ∀ (ps : List Nat) (p : Nat) (l : List InsD), patchL E (ps ++ [p]) l = (patchL E ps l).modify p (toD E)
  | [], _, _ => rfl
  | q :: r, p, l => by rw [List.cons_append, patchL, patchL, patchL_snoc E r]
theorem modify_mid {l1 l2 : List InsD} {y : InsD} {f : InsD → InsD} {p : Nat} (h : l1.length = p) : (l1 ++ y :: l2).modify p f = l1 ++ f y :: l2 := by
  subst h
  induction l1 with
  | nil => rfl
  | cons x r ih => rw [List.cons_append, List.length_cons, List.modify_succ_cons, ih, List.cons_append]
theorem modify_set {f : InsD → InsD} : ∀ {l : List InsD} {p : Nat} {y : InsD}, l[p]? = some y → l.modify p f = l.set p (f y)
  | [], _, _, h => by simp at h
  | x :: r, 0, y, h => by obtain rfl := Option.some.inj h; rfl
  | x :: r, p + 1, y, h => by
    rw [List.getElem?_cons_succ] at h
    rw [List.modify_succ_cons, List.set_cons_succ, modify_set h]
theorem patch_all : ∀ (l : List ExprT) (_ : ∀ x ∈ l, ∀ a b, (I a b x).length = L x) (a b : Nat) (pre suf : List InsD), pre.length = a → patchL E (posK L a l) (pre ++ (insK I L Wt op 0 a b l ++ suf)) = pre ++ (insK I L Wt op E a b l ++ suf)
  | [], _, _, _, _, _, _ => rfl
  | [x], _, a, b, pre, suf, _ => by simp [posK, patchL, insK]
  | x :: z :: r, hI, a, b, pre, suf, h => by
    rw [posK_cc, insK_cc, insK_cc, patchL]
    have e : ∀ F : Nat, pre ++ (I a b x ++ ⟨op, 0, 0, 0, 0, bs [], (F : Nat)⟩ :: insK I L Wt op F (a + L x + 1) (b + Wt x) (z :: r) ++ suf) = (pre ++ I a b x) ++ ⟨op, 0, 0, 0, 0, bs [], (F : Nat)⟩ :: (insK I L Wt op F (a + L x + 1) (b + Wt x) (z :: r) ++ suf) := fun F => by simp
    have hl : (pre ++ I a b x).length = a + L x := by rw [List.length_append, h, hI x (by simp)]
    rw [e 0, modify_mid hl, e E]
    have := patch_all (z :: r) (fun x hx => hI x (by simp [hx])) (a + L x + 1) (b + Wt x) (pre ++ I a b x ++ [⟨op, 0, 0, 0, 0, bs [], (E : Nat)⟩]) suf (by rw [List.length_append, hl]; rfl)
    simp only [List.append_assoc, List.singleton_append] at this ⊢
    exact this
theorem posK_lt : ∀ (l : List ExprT) (_ : ∀ x ∈ l, 1 ≤ L x) (a : Nat), ∀ p ∈ posK L a l, a ≤ p ∧ p < a + lenK L l
  | [], _, _, _, h => by simp [posK] at h
  | [x], _, _, _, h => by simp [posK] at h
  | x :: z :: r, hL, a, p, h => by
    rw [posK] at h
    rw [lenK]
    simp only [List.isEmpty_cons, Bool.false_eq_true, if_false] at h ⊢
    have hz : 1 ≤ lenK L (z :: r) := by rw [lenK]; have := hL z (by simp); omega
    rcases List.mem_cons.1 h with rfl | h
    · omega
    · have := posK_lt (z :: r) (fun x hx => hL x (by simp [hx])) _ p h; omega
theorem posK_len1 : ∀ (l : List ExprT) (a : Nat), l ≠ [] → (posK L a l).length + 1 = l.length
  | [], _, h => absurd rfl h
  | [x], _, _ => rfl
  | x :: z :: r, a, _ => by
    have := posK_len1 (z :: r) (a + L x + 1) (by simp)
    rw [posK_cc, List.length_cons, List.length_cons, ← this]
theorem posK_len : ∀ (l : List ExprT) (a : Nat), (posK L a l).length ≤ l.length
  | [], _ => Nat.le_refl _
  | x :: r, a => by
    rw [posK]
    split
    · simp
    · rw [List.length_cons, List.length_cons]; have := posK_len r (a + L x + 1); omega
end
/-! ## Rows as blocks -/
section
variable {X : List Nat} {w0 w : World} {L : List BlkE} {rs : List RowE} {J : World → Prop} {v : Value} {T : TypeId} {k n : Nat} {xs : List Value}
/-- A row that is written no more. -/
theorem Own.freezeRow (M : Own X w0 w L ((v, T, k, n, xs) :: rs) J) : ∃ A c, v = .slice A n c ∧ (n ≤ c ∧ c ≤ maxLen) ∧ FrA w0 A ∧ Own X w0 w L rs (fun y => J y ∧ Rdd y k A n xs) := by
  obtain ⟨A, c, hv, hc, hf, hr⟩ := own_reads (M.row _ List.mem_cons_self)
  simp only at hv hr
  have hsub : (exO L rs).Sublist (exO L ((v, T, k, n, xs) :: rs)) := by
    unfold exO
    exact List.Sublist.append (List.Sublist.refl _) (List.Sublist.filterMap _ (List.sublist_cons_self _ _))
  have hN := M.nodup
  refine ⟨A, c, hv, hc, hf, M.os, M.output, M.size, M.out, M.low, M.blk, fun r h => M.row r (List.mem_cons_of_mem _ h), hsub.nodup hN, fun y hy => ⟨M.always y ⟨hy.1, fun b h1 h2 => hy.2 b h1 fun h => h2 (hsub.subset h)⟩, hr.kept hy fun a e h0 hm => ?_⟩⟩
  subst hv
  obtain ⟨g, off, sp⟩ := a
  rcases (M.row _ List.mem_cons_self).2 with ⟨h, hn⟩ | ⟨g', cap, cur, h, _⟩
  · simp only at hn; omega
  · simp only [Value.slice.injEq] at h
    obtain ⟨h, _, _⟩ := h
    rw [h] at e
    cases e
    subst h
    unfold exO at hN hm
    rw [List.filterMap_cons] at hN
    have hN' := (List.perm_middle (l₁ := L.map (·.1)) (l₂ := rs.filterMap fun r => r.1.ownBlock) (a := g)).nodup_iff.1 hN
    exact (List.nodup_cons.1 hN').1 hm
theorem row_form {base : Nat} {A : Option Addr} {m c : Nat} {xs : List Value} (h : w.ownsRow base T k v n xs) (hv : v = .slice A m c) : ∀ a, A = some a → ∃ g, a = ⟨g, 0, none⟩ := by
  intro a e
  subst hv
  rcases h.2 with ⟨h, _⟩ | ⟨g, cap, cur, h, _⟩
  · cases h; cases e
  · cases h; cases e; exact ⟨g, rfl⟩
/-- A row taken for a block of the call's own. -/
theorem Own.rowBlk (M : Own X w0 w L ((v, T, k, n, xs) :: rs) J) (hn : 0 < n) : ∃ g c cur, v = .slice (some ⟨g, 0, none⟩) n c ∧ (n ≤ c ∧ c ≤ maxLen) ∧ w0.heap.size ≤ g ∧ cur.toList.take (n * k) = xs ∧ n * k ≤ cur.size ∧ Own X w0 w ((g, T, cur) :: L) rs J := by
  have hr := M.row _ List.mem_cons_self
  have hx : xs.length = n * k := hr.1
  rcases hr.2 with ⟨_, h0⟩ | ⟨g, cap, cur, hv, hb, hg, hle, hm, hsz, ht⟩
  · simp only at h0; omega
  · simp only at hv hg hle hsz ht
    subst hv
    have hp : (exO L ((.slice (some ⟨g, 0, none⟩) n cap, T, k, n, xs) :: rs)).Perm (exO ((g, T, cur) :: L) rs) := by
      unfold exO
      rw [List.map_cons, List.filterMap_cons]
      exact List.perm_middle (l₁ := L.map (·.1)) (l₂ := rs.filterMap fun r => r.1.ownBlock) (a := g)
    refine ⟨g, cap, cur, rfl, ⟨hle, hm⟩, hb, ht, ?_, M.os, M.output, M.size, M.out, fun x hx => ?_, fun x hx => ?_, fun r h => M.row r (List.mem_cons_of_mem _ h), hp.nodup_iff.1 M.nodup, fun y hy => M.always y ⟨hy.1, fun b h1 h2 => hy.2 b h1 fun h => h2 (hp.mem_iff.2 h)⟩⟩
    · have := congrArg List.length ht
      rw [List.length_take, hx] at this
      simp at this; omega
    · rcases List.mem_cons.1 hx with rfl | hx
      · exact .inl hb
      · exact M.low x hx
    · rcases List.mem_cons.1 hx with rfl | hx
      · exact hg
      · exact M.blk x hx
/-- .., and written no more. -/
theorem Own.rowBlk_at {x : BlkE} (M : Own X w0 w (x :: L) ((v, T, k, n, xs) :: rs) J) (hn : 0 < n) : ∃ g c cur, v = .slice (some ⟨g, 0, none⟩) n c ∧ (n ≤ c ∧ c ≤ maxLen) ∧ w0.heap.size ≤ g ∧ cur.toList.take (n * k) = xs ∧ n * k ≤ cur.size ∧ Own X w0 w (x :: L) rs (fun y => J y ∧ Blk y g T cur) := by
  obtain ⟨g, c, cur, h1, h2, h3, h4, h5, h6⟩ := M.rowBlk hn
  exact ⟨g, c, cur, h1, h2, h3, h4, h5, h6.freeze⟩
end
theorem rdd_blk {w : World} {g k n : Nat} {T : TypeId} {cur : Array Value} {xs : List Value} (h : Blk w g T cur) (ht : cur.toList.take (n * k) = xs) (hs : n * k ≤ cur.size) : Rdd w k (some ⟨g, 0, none⟩) n xs := by
  subst ht
  refine ⟨by rw [List.length_take, Array.length_toList]; omega, fun _ => ⟨_, rfl, h.lt, fun j u hu => ?_⟩⟩
  have hj : j < n * k := by
    rcases Nat.lt_or_ge j (n * k) with h | h
    · exact h
    · rw [List.getElem?_eq_none (by rw [List.length_take]; omega)] at hu; cases hu
  rw [List.getElem?_take_of_lt hj] at hu
  rw [add_lit, h.cell]
  simpa using hu
/-- A struct among the cells of a row. -/
theorem take_mid {α : Type} (f : α → List Value) (k : Nat) (hk : ∀ x, (f x).length = k) {l : List α} {cur : Array Value} (h : cur.toList.take (l.length * k) = l.flatMap f) {p : Nat} {y : α} (hy : l[p]? = some y) : (cur.toList.drop (p * k)).take k = f y := by
  have hp := (List.getElem?_eq_some_iff.1 hy).1
  have hle : p * k + k ≤ l.length * k := by rw [← Nat.succ_mul]; exact Nat.mul_le_mul_right k hp
  refine List.ext_getElem? fun j => ?_
  by_cases hj : j < k
  · rw [List.getElem?_take_of_lt hj, List.getElem?_drop]
    have h1 : (cur.toList.take (l.length * k))[p * k + j]? = (l.flatMap f)[p * k + j]? := by rw [h]
    rw [List.getElem?_take_of_lt (by omega)] at h1
    rw [h1, flat_get f k hk l p j hj, hy]; rfl
  · rw [List.getElem?_eq_none (by rw [List.length_take]; omega), List.getElem?_eq_none (by rw [hk]; omega)]
theorem setAt_get : ∀ (vs : List Value) (cs : Array Value) (o i : Nat), o + vs.length ≤ cs.size → (setAt cs o vs)[i]? = if o ≤ i ∧ i < o + vs.length then vs[i - o]? else cs[i]?
  | [], cs, o, i, _ => by rw [setAt, if_neg (by simp)]
  | v :: r, cs, o, i, h => by
    rw [List.length_cons] at h
    rw [setAt, setAt_get r _ (o + 1) i (by simp; omega), List.length_cons]
    by_cases h0 : i = o
    · subst h0
      rw [if_neg (by omega), if_pos (by omega), Nat.sub_self, List.getElem?_cons_zero, Array.getElem?_setIfInBounds_self_of_lt (by omega)]
    · by_cases h1 : o + 1 ≤ i ∧ i < o + 1 + r.length
      · rw [if_pos h1, if_pos (by omega), show i - o = (i - (o + 1)) + 1 by omega, List.getElem?_cons_succ]
      · rw [if_neg h1, if_neg (by omega), Array.getElem?_setIfInBounds_ne (by omega)]
theorem take_set {α : Type} (f : α → List Value) (k : Nat) (hk : ∀ x, (f x).length = k) {l : List α} {cur : Array Value} (h : cur.toList.take (l.length * k) = l.flatMap f) (hsz : l.length * k ≤ cur.size) {p : Nat} {y : α} (hp : p < l.length) : (setAt cur (p * k) (f y)).toList.take (l.length * k) = (l.set p y).flatMap f := by
  have hle : p * k + k ≤ l.length * k := by rw [← Nat.succ_mul]; exact Nat.mul_le_mul_right k hp
  rcases Nat.eq_zero_or_pos k with hk0 | hk0
  · subst hk0
    have : ∀ l : List α, l.flatMap f = [] := fun l => by
      induction l with
      | nil => rfl
      | cons x r ih => rw [List.flatMap_cons, ih, List.eq_nil_of_length_eq_zero (hk x)]; rfl
    rw [this]; simp
  refine List.ext_getElem? fun i => ?_
  by_cases hi : i < l.length * k
  · rw [List.getElem?_take_of_lt hi, Array.getElem?_toList, setAt_get _ _ _ _ (by rw [hk]; omega), hk]
    have hd : i / k * k + i % k = i := Nat.div_add_mod' i k
    have hm : i % k < k := Nat.mod_lt _ hk0
    have hg : ((l.set p y).flatMap f)[i]? = ((l.set p y)[i / k]?).bind fun x => (f x)[i % k]? := by
      have := flat_get f k hk (l.set p y) (i / k) (i % k) hm
      rwa [hd] at this
    rw [hg]
    by_cases hin : p * k ≤ i ∧ i < p * k + k
    · have e : i / k = p := by
        rw [Nat.div_eq_iff hk0]; omega
      rw [if_pos hin, e, List.getElem?_set_self hp]
      show _ = (f y)[i % k]?
      rw [e] at hd
      rw [show i - p * k = i % k by omega]
    · have e : p ≠ i / k := by
        intro e
        rw [← e] at hd
        omega
      rw [if_neg hin, List.getElem?_set_ne e]
      have h1 : (cur.toList.take (l.length * k))[i]? = (l.flatMap f)[i]? := by rw [h]
      rw [List.getElem?_take_of_lt hi, Array.getElem?_toList] at h1
      rw [h1]
      have := flat_get f k hk l (i / k) (i % k) hm
      rwa [hd] at this
  · rw [List.getElem?_eq_none (by rw [List.length_take]; omega), List.getElem?_eq_none (by rw [flat_len f k hk, List.length_set]; omega)]

end Go.Proofs.Ytpcbcodmocmilaa
