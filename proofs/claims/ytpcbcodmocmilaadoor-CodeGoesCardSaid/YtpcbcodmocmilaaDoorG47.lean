/- G47: Ra, Zh, Cd, Ce joined. -/
import Derived.Test.YtpcbcodmocmilaaDoorQz
import Derived.Test.YtpcbcodmocmilaaDoorG46
import Derived.Test.YtpcbcodmocmilaaDoorZg
import Derived.Test.YtpcbcodmocmilaaDoorG18
namespace Go.Proofs.YtpcbcodmocmilaaDoor
open Go.RowKit
/- qtree: Parse, all of it. -/
section
open Go.RowKit

/-- Lex, for the reader: what is left to read, and the fault. -/
theorem lexq_any (s : ByteArray) (w : World) (hs : s.size ≤ 1000000) :
    Calls Tryd.prog 34 #[.string s] w (LexQ s.data.toList w) := by
  refine (lex_any s w hs).mono ?_
  intro e w' h
  unfold LexP at h
  unfold LexQ stOf
  have ho := lex_order s.data.toList
  cases hl : lexL s.data.toList with
  | error x =>
    obtain ⟨x, a⟩ := x
    rw [hl] at h
    exact ⟨none, 0, h.1, ⟨Nat.le_refl _, by omega, Nat.zero_le _⟩, .inl rfl, h.2⟩
  | ok toks =>
    rw [hl] at h ho
    obtain ⟨⟨v, rfl, hv⟩, hb⟩ := h
    have hlen : toks.length ≤ 1000000 := by
      have h1 := ordL_len toks 0 ho.1
      rw [len_toList] at h1
      omega
    obtain ⟨A, cap, e1, hc, ht⟩ := tok_own hv rfl
    have hcap : cap ≤ 9223372036854775807 := by
      rcases hv.2 with ⟨e2, _⟩ | ⟨gg, cap', cur, e2, _, _, _, hm, _⟩
      · rw [e1] at e2
        have := (Value.slice.inj e2).2.2
        omega
      · rw [e1] at e2
        have := (Value.slice.inj e2).2.2
        unfold maxLen at hm
        omega
    subst e1
    exact ⟨A, cap, rfl, ⟨hc, hcap, hlen⟩, ht, hb⟩
theorem parse_any (s : ByteArray) (w : World) (hs : s.size ≤ 1000000) : Calls Tryd.prog 20 #[.string s] w (ParseP s.data.toList w) :=
  parse_of s w fun w => lexq_any s w hs

end
/- code: Query (printed by gen_zh.py). -/
section
open Go.RowKit

/-- What Query tells. -/
def CQueryP (l : List UInt8) (w : World) (e : Ending) (w' : World) : Prop :=
  match parseT true l with
  | .error (x, a) => e = .returned (.tuple #[.agg #[.slice none 0 0, .slice none 0 0, .slice none 0 0, .slice none 0 0], .agg #[.int .i64 x, .int .i64 a]]) ∧ Bel w.heap.size w w'
  | .ok p => ∃ (A1 A2 A3 A4 : Option Addr) (k1 k2 k3 k4 : Nat), e = .returned (.tuple #[.agg #[.slice A1 (codeT p).ps.length k1, .slice A2 (codeT p).gs.length k2, .slice A3 (codeT p).ss.length k3, .slice A4 (codeT p).is.length k4], .agg #[.int .i64 0, .int .i64 0]]) ∧
    CRd w' (codeT p) A1 A2 A3 A4 ∧ (FrA w A1 ∧ FrA w A2 ∧ FrA w A3 ∧ FrA w A4) ∧ ((codeT p).gs.length ≤ k2 ∧ (codeT p).ss.length ≤ k3) ∧ Bel w.heap.size w w'
theorem tree_of_segs {w y : World} {m : Nat} {p : PathT} {A : Option Addr} {c : Nat} (h : SegsG (Fr w) (ExR (Fr w) m y) y (.slice A p.segs.length c) p.segs) : TreeV y (p, .slice A p.segs.length c) :=
  SegsG.tree (p := p) (SegsG.keep (K' := Lw y) (R' := ExR (Lw y) m y) h ⟨Nat.le_refl _, fun _ _ hb => ⟨hb, rfl⟩⟩ fun cs x hx => ExR.keep ⟨Nat.le_refl _, fun _ _ hb => ⟨hb, rfl⟩⟩ m m (Nat.le_refl _) cs x hx)
theorem Own.addC {X : List Nat} {w0 w w' : World} {L : List BlkE} {rs : List RowE} {J : World → Prop} {A1 A2 A3 A4 : Option Addr} {c : CodeD} (M : Own X w0 w L rs J) (hb : Bel w.heap.size w w') (h : CRd w' c A1 A2 A3 A4) (f1 : FrA w A1) (f2 : FrA w A2) (f3 : FrA w A3) (f4 : FrA w A4) : Own X w0 w' L rs (fun y => J y ∧ CRd y c A1 A2 A3 A4) :=
  (M.bel hb).add fun _ hy =>
    have key : ∀ {k n : Nat} {A : Option Addr} {xs : List Value}, Rdd w' k A n xs → FrA w A → Rdd _ k A n xs := fun h hf => h.kept hy fun a e _ hm => Nat.lt_irrefl _ (Nat.lt_of_lt_of_le (M.ex_lt hm) (hf a e).1)
    ⟨key h.p f1, key h.g f2, key h.s f3, key h.i f4⟩

set_option maxRecDepth 100000 in
set_option maxHeartbeats 2000000 in
theorem query_err (s : ByteArray) (w : World) (hs : s.size ≤ 1000) (x a : Int) (hp : parseT true s.data.toList = .error (x, a)) : Calls Tryd.prog 10 #[.string s] w (CQueryP s.data.toList w) := by
  have M := Lib.hid (Own.start [] w (fun _ => True) fun _ _ => trivial)
  have hP := fun w => parse_any s w (by omega)
  unfold ParseP at hP
  rw [hp] at hP
  have HP := Lib.hid hP
  have hxb : (x != 0) = true := bne_iff_ne.2 (err_ne hp)
  have HE := Lib.hid (show ∀ w', Bel w.heap.size w w' → CQueryP s.data.toList w (.returned (.tuple #[.agg #[.slice none 0 0, .slice none 0 0, .slice none 0 0, .slice none 0 0], .agg #[.int .i64 x, .int .i64 a]])) w' from fun w' hb => by
    unfold CQueryP; rw [hp]; exact ⟨rfl, hb⟩)
  clear hP hp
  go_enter Tryd.func10, Tryd.ntmps10
  generalize hQ : bodyPost Tryd.prog Tryd.f10 _ = Q
  have HQ := Lib.hid hQ; clear hQ
  let qd := bodyPost Tryd.prog Tryd.f10 (fun _ _ => True)
  go_upto_region 3 with (first | ((with_reducible refine g_al 38 2 ?_); refine l_al F_Code M.out ?_; clear M; intro g2 w' hg2 M) | ((with_reducible refine g_al 28 3 ?_); refine l_al F_Flt M.out ?_; clear M; intro g3 w' hg3 M) | ((with_reducible refine g_al 25 4 ?_); refine l_al F_Path M.out ?_; clear M; intro g4 w' hg4 M) | ((with_reducible refine g_al 28 5 ?_); refine l_al F_Flt M.out ?_; clear M; intro g5 w' hg5 M) | ((with_reducible refine g_st 25 ?_); refine l_st F_Path rfl rfl M.out (by repeat constructor) (by exact rfl) (by exact rfl) (by exact rfl) ?_; clear M; intro w' M) | ((with_reducible refine g_st 28 ?_); refine l_st F_Flt rfl rfl M.out (by repeat constructor) (by exact rfl) (by exact rfl) (by exact rfl) ?_; clear M; intro w' M) | ((with_reducible refine g_ld 26 ?_); refine l_ld1 O_errno rfl M.out (by repeat constructor) (by exact rfl) ?_) | (go_at_call 20; (with_reducible refine (HP.out _).mono ?_); rintro e w' ⟨rfl, hb⟩; replace M := Lib.hid (M.out.bel hb); clear hb))
  replace M := Lib.hid M.out.freeze
  replace M := Lib.hid M.out.drew
  refine tb (fun y => True ∧ Blk y g5 28 #[.int .i64 x, .int .i64 a]) M.out.now ?_
  refine tkp 0 rfl M.out.now ?_
  refine tk 1 rfl M.out.now (y_ld F_Flt _ _ rfl _ _ (fun y h => h.2) rfl) ?_
  refine tr [2] ?_
  refine r_st F_Code (i := 2) rfl rfl rfl M.out (by repeat constructor) (by exact rfl) (by exact rfl) (by exact rfl) ?_ ?_
  · clear M; intro w' M; refine ⟨M.out.now, tn ?_⟩
    refine tr [3] ?_
    refine r_st F_Flt (i := 3) rfl rfl rfl M.out (by repeat constructor) (by exact rfl) (by exact rfl) (by exact rfl) ?_ ?_
    · clear M; intro w' M; refine ⟨M.out.now, tn ?_⟩
      refine te ?_
      go_wp2
      rw [← HQ.out]
      exact bodyPost_ret (results_2T Tryd.results10 _ _ g2 g3 _ _ _ _ rfl rfl (M.out.blk (g2, _, _) (by repeat constructor)) (M.out.blk (g3, _, _) (by repeat constructor)) F_Code F_Flt rfl rfl) rfl (HE.out _ M.out.bel0)
    exact .nil
  exact .nil
set_option maxRecDepth 100000 in
set_option maxHeartbeats 2000000 in
theorem query_ok (s : ByteArray) (w : World) (hs : s.size ≤ 1000) (p : PathT) (hp : parseT true s.data.toList = .ok p) : Calls Tryd.prog 10 #[.string s] w (CQueryP s.data.toList w) := by
  have M := Lib.hid (Own.start [] w (fun _ => True) fun _ _ => trivial)
  have hP := fun w => parse_any s w (by omega)
  unfold ParseP at hP
  rw [hp] at hP
  have HP := Lib.hid hP
  have HWF := Lib.hid (parse_wf hp)
  have HSZ := Lib.hid (show s.data.toList.length ≤ 1000 from by rw [len_toList]; exact hs)
  have HE := Lib.hid (show ∀ e w', (∃ (A1 A2 A3 A4 : Option Addr) (k1 k2 k3 k4 : Nat), e = .returned (.tuple #[.agg #[.slice A1 (codeT p).ps.length k1, .slice A2 (codeT p).gs.length k2, .slice A3 (codeT p).ss.length k3, .slice A4 (codeT p).is.length k4], .agg #[.int .i64 0, .int .i64 0]]) ∧ CRd w' (codeT p) A1 A2 A3 A4 ∧ (FrA w A1 ∧ FrA w A2 ∧ FrA w A3 ∧ FrA w A4) ∧ ((codeT p).gs.length ≤ k2 ∧ (codeT p).ss.length ≤ k3) ∧ Bel w.heap.size w w') → CQueryP s.data.toList w e w' from fun e w' h => by
    unfold CQueryP; rw [hp]; exact h)
  clear hP hp
  go_enter Tryd.func10, Tryd.ntmps10
  generalize hQ : bodyPost Tryd.prog Tryd.f10 _ = Q
  have HQ := Lib.hid hQ; clear hQ
  let qd := bodyPost Tryd.prog Tryd.f10 (fun _ _ => True)
  go_wp2_with (first | ((with_reducible refine g_al 38 2 ?_); refine l_al F_Code M.out ?_; clear M; intro g2 w' hg2 M) | ((with_reducible refine g_al 28 3 ?_); refine l_al F_Flt M.out ?_; clear M; intro g3 w' hg3 M) | ((with_reducible refine g_al 25 4 ?_); refine l_al F_Path M.out ?_; clear M; intro g4 w' hg4 M) | ((with_reducible refine g_al 28 5 ?_); refine l_al F_Flt M.out ?_; clear M; intro g5 w' hg5 M) | ((with_reducible refine g_st 25 ?_); refine l_st F_Path rfl rfl M.out (by repeat constructor) (by exact rfl) (by exact rfl) (by exact rfl) ?_; clear M; intro w' M) | ((with_reducible refine g_st 28 ?_); refine l_st F_Flt rfl rfl M.out (by repeat constructor) (by exact rfl) (by exact rfl) (by exact rfl) ?_; clear M; intro w' M) | ((with_reducible refine g_ld 26 ?_); refine l_ld1 O_errno rfl M.out (by repeat constructor) (by exact rfl) ?_) | ((with_reducible refine g_st 38 ?_); refine l_st F_Code rfl rfl M.out (by repeat constructor) (by exact rfl) (by exact rfl) (by exact rfl) ?_; clear M; intro w' M) | ((with_reducible refine g_ld 25 ?_); refine l_ld F_Path rfl M.out (by repeat constructor) (by exact rfl) ?_) | (go_at_call 20; (with_reducible refine (HP.out _).mono ?_); rintro e w' ⟨⟨m, A, c, rfl, hrow⟩, hb⟩; have Mn := M.out.addK (G := fun K y => SegsG K (ExR K m y) y (.slice A p.segs.length c) p.segs) (fun h hk => SegsG.keep h hk fun _ _ h => ExR.keep hk m m (Nat.le_refl _) _ _ h) hb hrow; replace M := Lib.hid Mn; clear Mn hb hrow) | (go_at_call 21; (with_reducible refine (make_any (fun _ => True) p (.slice A p.segs.length c) _ (tree_of_segs M.out.now.2) HWF.out.1 (by have := HWF.out.2.1; have := HSZ.out; omega)).mono ?_); rintro e w' ⟨A1, A2, A3, A4, k1, k2, k3, k4, rfl, hcr, ⟨f1, f2, f3, f4⟩, hq, hb⟩; have Mn := M.out.addC hb hcr f1 f2 f3 f4; have HQQ := Lib.hid hq; have HFF := Lib.hid (show FrA w A1 ∧ FrA w A2 ∧ FrA w A3 ∧ FrA w A4 from ⟨f1.le M.out.size, f2.le M.out.size, f3.le M.out.size, f4.le M.out.size⟩); replace M := Lib.hid Mn; clear Mn hb hcr f1 f2 f3 f4 hq))
  rw [← HQ.out]
  exact bodyPost_ret (results_2T Tryd.results10 _ _ g2 g3 _ _ _ _ rfl rfl (M.out.blk (g2, _, _) (by repeat constructor)) (M.out.blk (g3, _, _) (by repeat constructor)) F_Code F_Flt rfl rfl) rfl (HE.out _ _ ⟨A1, A2, A3, A4, k1, k2, k3, k4, rfl, M.out.now.2, HFF.out, HQQ.out, M.out.bel0⟩)
theorem query_any (s : ByteArray) (w : World) (hs : s.size ≤ 1000) : Calls Tryd.prog 10 #[.string s] w (CQueryP s.data.toList w) := by
  cases hp : parseT true s.data.toList with
  | error e => exact query_err s w hs e.1 e.2 hp
  | ok p => exact query_ok s w hs p hp


end
/- A query's code: each instruction is as it should be (plain; no word of a dump). -/
section

/-- An instruction at k, in an expression's at a, of n instructions, whose paths have numbers from b on. -/
def InsOK (a n b : Nat) (ws : List PathT) (k : Nat) (y : InsD) : Prop :=
  (y.op = 0 ∧ ∃ j : Nat, y.p = ((b + j : Nat) : Int) ∧ j < ws.length) ∨ (y.op = 1 ∧ (∃ (j : Nat) (q : PathT), y.p = ((b + j : Nat) : Int) ∧ ws[j]? = some q ∧ singB q = true) ∧ 0 ≤ y.sign ∧ y.sign ≤ 5 ∧ 0 ≤ y.kind ∧ y.kind ≤ 3) ∨ y.op = 2 ∨ ((y.op = 3 ∨ y.op = 4) ∧ (k : Int) < y.tt ∧ y.tt ≤ ((a + n : Nat) : Int))
section
variable {S : List UInt8 → Prop}
theorem InsOK.wide {a n b k a' n' m : Nat} {ws ws' : List PathT} {y : InsD} (h : InsOK a n (b + m) ws k y) (h1 : a + n ≤ a' + n') (h2 : At ws ws' m) : InsOK a' n' b ws' k y := by
  rcases h with ⟨e, j, e1, e2⟩ | ⟨e, ⟨j, q, e1, e2, e3⟩, e4⟩ | e | ⟨e, e1, e2⟩
  · exact .inl ⟨e, m + j, by rw [e1]; congr 1; omega, by have := h2.le; omega⟩
  · exact .inr (.inl ⟨e, ⟨m + j, q, by rw [e1]; congr 1; omega, (h2.get (List.getElem?_eq_some_iff.1 e2).1).trans e2, e3⟩, e4⟩)
  · exact .inr (.inr (.inl e))
  · exact .inr (.inr (.inr ⟨e, e1, by omega⟩))
theorem turnS_bd {i : Int} (h0 : 0 ≤ i) (h5 : i ≤ 5) : 0 ≤ turnS i ∧ turnS i ≤ 5 := by unfold turnS; (repeat' split) <;> omega
theorem side_kind {W : ExprT → Prop} {x : SideT} (h : WfSide S W x) : 0 ≤ x.kind ∧ x.kind ≤ 3 := by cases h <;> simp
theorem insK_ok {I : Nat → Nat → ExprT → List InsD} {L : ExprT → Nat} {W : ExprT → List PathT} {op : Int} (hop : op = 3 ∨ op = 4) {E : Nat} : ∀ (l : List ExprT) (a b m a' n' : Nat) (ws : List PathT), (∀ k ∈ l, 1 ≤ L k ∧ (∀ a b, (I a b k).length = L k ∧ ∀ j y, (I a b k)[j]? = some y → InsOK a (L k) b (W k) (a + j) y)) →
    a + lenK L l = E → E ≤ a' + n' → At (l.flatMap W) ws m → ∀ j y, (insK I L (fun k => (W k).length) op E a (b + m) l)[j]? = some y → InsOK a' n' b ws (a + j) y
  | [], _, _, _, _, _, _, _, _, _, _, j, y, h => by simp [insK] at h
  | x :: r, a, b, m, a', n', ws, hl, hE, h1, h2, j, y, h => by
    rw [insK] at h
    rw [lenK] at hE
    rw [List.flatMap_cons] at h2
    obtain ⟨p1, p2⟩ := hl x (by simp)
    obtain ⟨q1, q2⟩ := p2 a (b + m)
    by_cases hj : j < L x
    · rw [List.getElem?_append_left (by rw [q1]; exact hj)] at h
      refine (q2 j y h).wide ?_ (h2.sub (At.pre _ _))
      split at hE <;> omega
    · rw [List.getElem?_append_right (by rw [q1]; omega), q1] at h
      cases r with
      | nil => simp at h
      | cons z r =>
        simp only [List.isEmpty_cons, Bool.false_eq_true, if_false] at h hE
        obtain ⟨z1, z2⟩ := hl z (by simp)
        have hpos : 1 ≤ lenK L (z :: r) := by rw [lenK]; omega
        rcases Nat.eq_zero_or_pos (j - L x) with h0 | h0
        · rw [h0, List.getElem?_cons_zero] at h
          obtain rfl := Option.some.inj h
          exact .inr (.inr (.inr ⟨hop, by simp only; omega, by simp only; omega⟩))
        · rw [show j - L x = (j - L x - 1) + 1 by omega, List.getElem?_cons_succ, Nat.add_assoc b] at h
          have := insK_ok hop (z :: r) (a + L x + 1) b (m + (W x).length) a' n' ws (fun k hk => hl k (by simp [hk])) (by omega) h1 (h2.sub (At.suf _ _ rfl)) _ y h
          rw [show a + L x + 1 + (j - L x - 1) = a + j by omega] at this
          exact this
theorem at_refl {α : Type} (l : List α) : At l l 0 := ⟨[], [], by simp, rfl⟩
/-- Each instruction is as it should be. -/
theorem insN_ok : ∀ (n : Nat) (x : ExprT), WfN S n x → ∀ (a b j : Nat) (y : InsD), (insN n a b x)[j]? = some y → InsOK a (lenN n x) b (waitN n x) (a + j) y
  | 0, _, h => h.elim
  | n + 1, x, h => fun a b j y hy => by
    have h' : WfX S (WfN S n) x := h
    have ih : ∀ k, WfN S n k → 1 ≤ lenN n k ∧ (∀ a b, (insN n a b k).length = lenN n k ∧ ∀ j y, (insN n a b k)[j]? = some y → InsOK a (lenN n k) b (waitN n k) (a + j) y) := fun k hk => ⟨lenN_pos n k hk, fun a b => ⟨insN_len n k hk a b, fun j y => insN_ok n k hk a b j y⟩⟩
    rw [insN] at hy
    rw [lenN, waitN]
    cases h' with
    | or l a1 b1 =>
      simp [mkE] at hy ⊢
      exact insK_ok (.inl rfl) l a b 0 a _ _ (fun k hk => ih k (b1 k hk)) rfl (Nat.le_refl _) (at_refl _) j y hy
    | and l a1 b1 =>
      simp [mkE] at hy ⊢
      exact insK_ok (.inr rfl) l a b 0 a _ _ (fun k hk => ih k (b1 k hk)) rfl (Nat.le_refl _) (at_refl _) j y hy
    | not k a1 =>
      simp [mkE, insK, lenK] at hy ⊢
      obtain ⟨_, i2⟩ := ih k a1
      obtain ⟨q1, q2⟩ := i2 a b
      by_cases hj : j < lenN n k
      · rw [List.getElem?_append_left (by rw [q1]; exact hj)] at hy
        exact InsOK.wide (m := 0) (q2 j y hy) (by omega) (at_refl _)
      · rw [List.getElem?_append_right (by rw [q1]; omega), q1] at hy
        rcases Nat.eq_zero_or_pos (j - lenN n k) with h0 | h0
        · rw [h0] at hy
          obtain rfl := Option.some.inj hy
          exact .inr (.inr (.inl rfl))
        · rw [List.getElem?_eq_none (by simp; omega)] at hy; cases hy
    | test p a1 =>
      simp [tstE] at hy ⊢
      rcases Nat.eq_zero_or_pos j with rfl | h0
      · obtain rfl := Option.some.inj hy
        exact .inl ⟨rfl, 0, by simp, by simp⟩
      · rw [List.getElem?_eq_none (by simp; omega)] at hy; cases hy
    | cmp op x1 x2 a1 a2 a3 a4 a5 a6 =>
      simp at hy ⊢
      rcases Nat.eq_zero_or_pos j with rfl | h0
      · obtain rfl := Option.some.inj hy
        refine .inr (.inl ?_)
        have hs : singB (cmpP ⟨4, [], path0, op, x1, x2⟩) = true := a6
        unfold cmpD
        simp only
        split
        · exact ⟨rfl, ⟨0, _, by simp, rfl, hs⟩, (turnS_bd a1 a2).1, (turnS_bd a1 a2).2, (side_kind a3).1, (side_kind a3).2⟩
        · exact ⟨rfl, ⟨0, _, by simp, rfl, hs⟩, a1, a2, (side_kind a4).1, (side_kind a4).2⟩
      · rw [List.getElem?_eq_none (by simp; omega)] at hy; cases hy
theorem InsOK.op {a n b k : Nat} {ws : List PathT} {y : InsD} (h : InsOK a n b ws k y) : 0 ≤ y.op ∧ y.op ≤ 4 := by
  rcases h with ⟨e, _⟩ | ⟨e, _⟩ | e | ⟨e, _⟩ <;> omega
/-- A filter: its selector, expression, place, first path's number, in code. -/
structure Flt (S : List UInt8 → Prop) (n : Nat) (is : List InsD) (Wl : List PathT) (y : SelD) (e : ExprT) (a b : Nat) : Prop where
  wf : WfN S n e
  at_ : y.at_ = (a : Int)
  ins : At (insN n a b e ++ [opD 5]) is a
  wait : At (waitN n e) Wl b
/-- Each filter among selectors. -/
theorem flD_flt {n : Nat} : ∀ (l : List SelT) (a b a0 b0 : Nat) (is : List InsD) (Wl : List PathT), (∀ y ∈ l, WfS S (WfN S n) y) → At (flD n a b l).2 is a → At (flW n l) Wl b → a0 ≤ a → b0 ≤ b →
    (∀ y ∈ (flD n a b l).1, y.kind = 4 → ∃ e a' b', Flt S n is Wl y e a' b' ∧ b0 ≤ b' ∧ a0 ≤ a') ∧ (∀ k, a ≤ k → k < a + (flD n a b l).2.length → ∃ y e a' b', y ∈ (flD n a b l).1 ∧ y.kind = 4 ∧ Flt S n is Wl y e a' b' ∧ b0 ≤ b' ∧ a' ≤ k ∧ k ≤ a' + lenN n e)
  | [], _, _, _, _, _, _, _, _, _, _, _ => ⟨fun y hy => by simp [flD] at hy, fun k h1 h2 => by simp [flD] at h2; omega⟩
  | x :: r, a, b, a0, b0, is, Wl, hl, hi, hw, ha, hb => by
    have hx := hl x (by simp)
    have hr := fun y hy => hl y (List.mem_cons_of_mem x hy)
    rw [flD] at hi ⊢
    rw [flW] at hw
    cases hf : x.f with
    | none =>
      rw [hf] at hi hw
      obtain ⟨i1, i2⟩ := flD_flt r a b a0 b0 is Wl hr hi hw ha hb
      refine ⟨fun y hy hk => ?_, fun k h1 h2 => ?_⟩
      · rcases List.mem_cons.1 hy with rfl | hy
        · exfalso
          unfold selD at hk
          cases hx with
          | filt e k => cases hf
          | _ => simp at hk
        · exact i1 y hy hk
      · obtain ⟨y, e, a', b', k1, k2⟩ := i2 k h1 h2
        exact ⟨y, e, a', b', List.mem_cons_of_mem _ k1, k2⟩
    | some e =>
      rw [hf] at hi hw
      simp only at hi hw ⊢
      have he : WfN S n e ∧ x.kind = 4 := by
        cases hx with
        | filt e' k => obtain rfl := Option.some.inj hf; exact ⟨k, rfl⟩
        | _ => cases hf
      have q1 := insN_len n e he.1 a b
      have hi' : At ((insN n a b e ++ [opD 5]) ++ (flD n (a + lenN n e + 1) (b + (waitN n e).length) r).2) is a := by simpa using hi
      have hF : Flt S n is Wl (selD x a) e a b := ⟨he.1, rfl, hi'.sub (At.pre _ _), hw.sub (At.pre _ _)⟩
      obtain ⟨i1, i2⟩ := flD_flt r (a + lenN n e + 1) (b + (waitN n e).length) a0 b0 is Wl hr (hi'.sub (At.suf _ _ (k := lenN n e + 1) (by rw [List.length_append, q1]; rfl))) (hw.sub (At.suf _ _ rfl)) (by omega) (by omega)
      refine ⟨fun y hy hk => ?_, fun k h1 h2 => ?_⟩
      · rcases List.mem_cons.1 hy with rfl | hy
        · exact ⟨e, a, b, hF, hb, ha⟩
        · exact i1 y hy hk
      · rw [List.length_append, List.length_cons, q1] at h2
        by_cases hk : k ≤ a + lenN n e
        · exact ⟨selD x a, e, a, b, by simp, he.2, hF, hb, h1, hk⟩
        · obtain ⟨y, e', a', b', k1, k2⟩ := i2 k (by omega) (by omega)
          exact ⟨y, e', a', b', List.mem_cons_of_mem _ k1, k2⟩
end

end
/- A query's code is sound; bent, it is not (plain; no word of a dump). -/
section

section
variable {S : List UInt8 → Prop} {c : CodeD} {p : Int} {at0 last : Nat}
end
section
variable {S : List UInt8 → Prop} {n : Nat} {c : CodeD} {Wl : List PathT}
end

end

end Go.Proofs.YtpcbcodmocmilaaDoor
