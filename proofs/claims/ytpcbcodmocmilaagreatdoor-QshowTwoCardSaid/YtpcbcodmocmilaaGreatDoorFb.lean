/- law18: QshowTwo (printed by gen_fb.py). -/
import Derived.Test.YtpcbcodmocmilaaGreatDoorFa
namespace Go.Proofs.YtpcbcodmocmilaaGreatDoor
open Go.RowKit

theorem sum_ge {α : Type} (f : α → Nat) : ∀ l : List α, (∀ x ∈ l, 1 ≤ f x) → l.length ≤ (l.map f).sum
  | [], _ => by simp
  | x :: r, h => by
    have := sum_ge f r fun y hy => h y (by simp [hy])
    have := h x (by simp)
    rw [List.map_cons, List.sum_cons, List.length_cons]; omega
theorem segs_wt (w : ExprT → Nat) (p : PathT) : p.segs.length ≤ wtP w p := by
  have := sum_ge (wtG w) p.segs fun s _ => by unfold wtG; omega
  unfold wtP; omega
theorem SS.mono {N M : Nat} (h : N ≤ M) {t : List UInt8} (k : SS N t) : SS M t := ⟨Nat.le_trans k.1 h, k.2⟩
theorem WfS.monoS {S S' : List UInt8 → Prop} {W W' : ExprT → Prop} (hS : ∀ t, S t → S' t) (h : ∀ e, W e → W' e) {y : SelT} (k : WfS S W y) : WfS S' W' y := by
  cases k with
  | nm s a => exact .nm s (hS s a)
  | wild => exact .wild
  | idx n a => exact .idx n a
  | slice a b c ha hb a1 a2 a3 a4 a5 => exact .slice a b c ha hb a1 a2 a3 a4 a5
  | filt e a => exact .filt e (h e a)
theorem WfP.monoS {S S' : List UInt8 → Prop} {W W' : ExprT → Prop} (hS : ∀ t, S t → S' t) (h : ∀ e, W e → W' e) {p : PathT} (k : WfP S W p) : WfP S' W' p := fun s hs => ⟨(k s hs).1, fun y hy => ((k s hs).2 y hy).monoS hS h⟩
theorem WfSide.monoS {S S' : List UInt8 → Prop} {W W' : ExprT → Prop} (hS : ∀ t, S t → S' t) (h : ∀ e, W e → W' e) {x : SideT} (k : WfSide S W x) : WfSide S' W' x := by
  cases k with
  | path p a => exact .path p (a.monoS hS h)
  | null => exact .null
  | tru => exact .tru
  | fls => exact .fls
  | num n a => exact .num n a
  | str s a => exact .str s (hS s a)
theorem WfN.monoS {S S' : List UInt8 → Prop} (hS : ∀ t, S t → S' t) : ∀ (n : Nat) (x : ExprT), WfN S n x → WfN S' n x
  | 0, _, h => h.elim
  | n + 1, x, h => by
    have h' : WfX S (WfN S n) x := h
    have ih := WfN.monoS hS n
    show WfX S' (WfN S' n) x
    cases h' with
    | or l a b => exact .or l a fun k hk => ih k (b k hk)
    | and l a b => exact .and l a fun k hk => ih k (b k hk)
    | not k a => exact .not k (ih k a)
    | test p a => exact .test p (a.monoS hS ih)
    | cmp op a b a1 a2 a3 a4 a5 a6 => exact .cmp op a b a1 a2 (a3.monoS hS ih) (a4.monoS hS ih) a5 a6
theorem parse_wf800 {m : Bool} {l : List UInt8} {p : PathT} (h : parseT m l = .ok p) (hl : l.length ≤ 400) : WfP (SS 1600) (WfN (SS 1600) 200) p ∧ wtP (wtN 200) p ≤ 1600 ∧ p.abs = true := by
  obtain ⟨h1, h2, h3⟩ := parse_wfS h
  have hS : ∀ t, SS (4 * l.length) t → SS 1600 t := fun t ht => ht.mono (by omega)
  exact ⟨h1.monoS hS (WfN.monoS hS 200), by omega, h3⟩
theorem show_le {p : PathT} (h : WfP (SS 1600) (WfN (SS 1600) 200) p) (hw : wtP (wtN 200) p ≤ 1600) : (showT p).length ≤ 40000000 := by
  have := showT_len (by omega) h
  omega
theorem both_row {w W : World} {m1 m2 : Nat} {A1 A2 A : Option Addr} {css1 css2 : List (List Value)} {l1 l2 : List SegT} {c : Nat} (h1 : SegsC (Fr w) m1 W A1 css1 l1) (h2 : SegsC (Fr w) m2 W A2 css2 l2) (hr : Rdd W 2 A (l1.length + l2.length) (css1.flatten ++ css2.flatten)) (hs : ∀ a, A = some a → a.spot = none) (hc : l1.length + l2.length ≤ c ∧ c ≤ 9223372036854775807) :
    SegsG (Lw W) (ExR (Lw W) (max m1 m2) W) W (.slice A (l1.length + l2.length) c) (l1 ++ l2) := by
  rw [← List.length_append] at hr hc ⊢
  rw [← List.flatten_append] at hr
  have hrel : ∀ {m : Nat} {B : Option Addr} {css : List (List Value)} {l : List SegT}, SegsC (Fr w) m W B css l → m ≤ max m1 m2 → ∀ (i : Nat) (cs : List Value) (x : SegT), css[i]? = some cs → l[i]? = some x → SegR (Lw W) (max m1 m2) W cs x := by
    intro m B css l h hm i cs x e1 e2
    rcases h.2.2 with e | ⟨b, off, _, _, _, hq⟩
    · rw [e] at e2; simp at e2
    · exact SegR.keep (hq i cs x e1 e2).2 lw_fr hm
  refine (RowC.of (by rw [List.length_append, List.length_append, h1.1, h2.1]) (fun cs h => ?_) (fun i cs x e1 e2 => ?_) hr hs).row hc
  · rcases List.mem_append.1 h with h | h
    · exact h1.2.1 cs h
    · exact h2.2.1 cs h
  · rcases Nat.lt_or_ge i css1.length with hi | hi
    · rw [List.getElem?_append_left hi] at e1
      rw [List.getElem?_append_left (by rw [← h1.1]; exact hi)] at e2
      exact hrel h1 (Nat.le_max_left _ _) i cs x e1 e2
    · rw [List.getElem?_append_right hi] at e1
      rw [List.getElem?_append_right (by rw [← h1.1]; exact hi), ← h1.1] at e2
      exact hrel h2 (Nat.le_max_right _ _) _ cs x e1 e2
theorem bs_tail (c : UInt8) (Y : List UInt8) : (bs (c :: Y)).extract 1 (bs (c :: Y)).size = bs Y := by
  apply ByteArray.ext
  apply Array.ext'
  simp [bs, ByteArray.size]
theorem show_both {p q : PathT} (hp : p.abs = true) (hq : q.abs = true) : ∃ Y, showT q = 36 :: Y ∧ showT ⟨true, p.segs ++ q.segs⟩ = showT p ++ Y := by
  refine ⟨q.segs.flatMap (segW (exprW 200)), ?_, ?_⟩
  · unfold showT pathW; rw [hq]; rfl
  · unfold showT pathW; rw [hp]; simp

set_option maxRecDepth 100000 in
set_option maxHeartbeats 2000000 in
theorem qtwo_long1 (s t : ByteArray) (w : World) (ht : Tab w) (h1 : 200 < s.size) : Calls Tryz.prog 7 #[.string s, .string t] w fun e w' => e = .returned (.bool true) ∧ Bel w.heap.size w w' := by
  have M := Lib.hid (Own.start [] w (fun _ => True) fun _ _ => trivial)
  have HT := Lib.hid ht
  clear ht
  have h1i : (200 : Int) < (s.size : Int) := by omega
  go_enter Tryz.func7, Tryz.ntmps7
  go_wp2_with (go_at_call 16; (with_reducible refine (awake18 _ (HT.out.bel M.out.bel0 (Nat.le_refl _))).mono ?_); rintro e w' ⟨rfl, hb⟩; replace M := Lib.hid (M.out.bel hb); clear hb)
  go_ret
  exact ⟨rfl, M.out.bel0⟩
set_option maxRecDepth 100000 in
set_option maxHeartbeats 2000000 in
theorem qtwo_long2 (s t : ByteArray) (w : World) (ht : Tab w) (h1 : s.size ≤ 200) (h2 : 200 < t.size) : Calls Tryz.prog 7 #[.string s, .string t] w fun e w' => e = .returned (.bool true) ∧ Bel w.heap.size w w' := by
  have M := Lib.hid (Own.start [] w (fun _ => True) fun _ _ => trivial)
  have HT := Lib.hid ht
  clear ht
  have h2i : (200 : Int) < (t.size : Int) := by omega
  go_enter Tryz.func7, Tryz.ntmps7
  go_wp2_with (go_at_call 16; (with_reducible refine (awake18 _ (HT.out.bel M.out.bel0 (Nat.le_refl _))).mono ?_); rintro e w' ⟨rfl, hb⟩; replace M := Lib.hid (M.out.bel hb); clear hb)
  go_ret
  exact ⟨rfl, M.out.bel0⟩
set_option maxRecDepth 100000 in
set_option maxHeartbeats 2000000 in
theorem qtwo_err1 (s t : ByteArray) (w : World) (ht : Tab w) (h1 : s.size ≤ 200) (h2 : t.size ≤ 200) (x a : Int) (hp : parseT true s.data.toList = .error (x, a)) (r : Except (Int × Int) PathT) (hq : parseT true t.data.toList = r) : Calls Tryz.prog 7 #[.string s, .string t] w fun e w' => e = .returned (.bool true) ∧ Bel w.heap.size w w' := by
  have M := Lib.hid (Own.start [] w (fun _ => True) fun _ _ => trivial)
  have HT := Lib.hid ht
  clear ht
  have hx : (x != 0) = true := by simpa using err_ne hp
  have HP := Lib.hid hp
  clear hp
  cases r with
  | error y =>
    obtain ⟨y, b⟩ := y
    have HQ := Lib.hid hq
    clear hq
    go_enter Tryz.func7, Tryz.ntmps7
    go_wp2_with (first | (go_at_call 16; (with_reducible refine (awake18 _ (HT.out.bel M.out.bel0 (Nat.le_refl _))).mono ?_); rintro e w' ⟨rfl, hb⟩; replace M := Lib.hid (M.out.bel hb); clear hb) | ((with_reducible refine g_al 37 5 ?_); refine l_al F_Path M.out ?_; clear M; intro g5 w' hg5 M) | ((with_reducible refine g_al 31 6 ?_); refine l_al F_Flq M.out ?_; clear M; intro g6 w' hg6 M) | ((with_reducible refine g_al 37 7 ?_); refine l_al F_Path M.out ?_; clear M; intro g7 w' hg7 M) | ((with_reducible refine g_al 31 8 ?_); refine l_al F_Flq M.out ?_; clear M; intro g8 w' hg8 M) | ((with_reducible refine g_st 37 ?_); refine l_st F_Path rfl rfl M.out (by repeat constructor) (by exact rfl) (by exact rfl) (by exact rfl) ?_; clear M; intro w' M) | ((with_reducible refine g_st 31 ?_); refine l_st F_Flq rfl rfl M.out (by repeat constructor) (by exact rfl) (by exact rfl) (by exact rfl) ?_; clear M; intro w' M) | ((with_reducible refine g_ld 29 ?_); refine l_ld1 O_ern rfl M.out (by repeat constructor) (by exact rfl) ?_) | ((with_reducible refine q_gl 29 ?_); refine q_ld1g O_ern rfl rfl M.out (by repeat constructor) (by exact rfl) ?_) | (go_at_call 17; (with_reducible refine (parsec_err (s := s) _ (by omega) HP.out).mono ?_); rintro e w' ⟨rfl, hb⟩; replace M := Lib.hid (M.out.bel hb); clear hb) | (go_at_call 17; (with_reducible refine (parsec_err (s := t) _ (by omega) HQ.out).mono ?_); rintro e w' ⟨rfl, hb⟩; replace M := Lib.hid (M.out.bel hb); clear hb))
    go_ret
    exact ⟨rfl, M.out.bel0⟩
  | ok q =>
    have HQ := Lib.hid hq
    clear hq
    go_enter Tryz.func7, Tryz.ntmps7
    go_wp2_with (first | (go_at_call 16; (with_reducible refine (awake18 _ (HT.out.bel M.out.bel0 (Nat.le_refl _))).mono ?_); rintro e w' ⟨rfl, hb⟩; replace M := Lib.hid (M.out.bel hb); clear hb) | ((with_reducible refine g_al 37 5 ?_); refine l_al F_Path M.out ?_; clear M; intro g5 w' hg5 M) | ((with_reducible refine g_al 31 6 ?_); refine l_al F_Flq M.out ?_; clear M; intro g6 w' hg6 M) | ((with_reducible refine g_al 37 7 ?_); refine l_al F_Path M.out ?_; clear M; intro g7 w' hg7 M) | ((with_reducible refine g_al 31 8 ?_); refine l_al F_Flq M.out ?_; clear M; intro g8 w' hg8 M) | ((with_reducible refine g_st 37 ?_); refine l_st F_Path rfl rfl M.out (by repeat constructor) (by exact rfl) (by exact rfl) (by exact rfl) ?_; clear M; intro w' M) | ((with_reducible refine g_st 31 ?_); refine l_st F_Flq rfl rfl M.out (by repeat constructor) (by exact rfl) (by exact rfl) (by exact rfl) ?_; clear M; intro w' M) | ((with_reducible refine g_ld 29 ?_); refine l_ld1 O_ern rfl M.out (by repeat constructor) (by exact rfl) ?_) | ((with_reducible refine q_gl 29 ?_); refine q_ld1g O_ern rfl rfl M.out (by repeat constructor) (by exact rfl) ?_) | (go_at_call 17; (with_reducible refine (parsec_err (s := s) _ (by omega) HP.out).mono ?_); rintro e w' ⟨rfl, hb⟩; replace M := Lib.hid (M.out.bel hb); clear hb) | (go_at_call 17; (with_reducible refine (parsec_ok (s := t) _ (by omega) HQ.out).mono ?_); rintro e w' ⟨m2, A2, c2, css2, rfl, hc, hsg, hb⟩; have HC2 := Lib.hid hc; have Mn := M.out.addK (G := fun K y => SegsC K m2 y A2 css2 q.segs) (fun h hk => SegsC.keep h hk) hb hsg; replace M := Lib.hid Mn; clear Mn hb hsg hc))
    go_ret
    exact ⟨rfl, M.out.bel0⟩
set_option maxRecDepth 100000 in
set_option maxHeartbeats 2000000 in
theorem qtwo_err2 (s t : ByteArray) (w : World) (ht : Tab w) (h1 : s.size ≤ 200) (h2 : t.size ≤ 200) (p : PathT) (hp : parseT true s.data.toList = .ok p) (x a : Int) (hq : parseT true t.data.toList = .error (x, a)) : Calls Tryz.prog 7 #[.string s, .string t] w fun e w' => e = .returned (.bool true) ∧ Bel w.heap.size w w' := by
  have M := Lib.hid (Own.start [] w (fun _ => True) fun _ _ => trivial)
  have HT := Lib.hid ht
  clear ht
  have hx : (x != 0) = true := by simpa using err_ne hq
  have HP := Lib.hid hp
  have HQ := Lib.hid hq
  clear hp hq
  go_enter Tryz.func7, Tryz.ntmps7
  go_wp2_with (first | (go_at_call 16; (with_reducible refine (awake18 _ (HT.out.bel M.out.bel0 (Nat.le_refl _))).mono ?_); rintro e w' ⟨rfl, hb⟩; replace M := Lib.hid (M.out.bel hb); clear hb) | ((with_reducible refine g_al 37 5 ?_); refine l_al F_Path M.out ?_; clear M; intro g5 w' hg5 M) | ((with_reducible refine g_al 31 6 ?_); refine l_al F_Flq M.out ?_; clear M; intro g6 w' hg6 M) | ((with_reducible refine g_al 37 7 ?_); refine l_al F_Path M.out ?_; clear M; intro g7 w' hg7 M) | ((with_reducible refine g_al 31 8 ?_); refine l_al F_Flq M.out ?_; clear M; intro g8 w' hg8 M) | ((with_reducible refine g_st 37 ?_); refine l_st F_Path rfl rfl M.out (by repeat constructor) (by exact rfl) (by exact rfl) (by exact rfl) ?_; clear M; intro w' M) | ((with_reducible refine g_st 31 ?_); refine l_st F_Flq rfl rfl M.out (by repeat constructor) (by exact rfl) (by exact rfl) (by exact rfl) ?_; clear M; intro w' M) | ((with_reducible refine g_ld 29 ?_); refine l_ld1 O_ern rfl M.out (by repeat constructor) (by exact rfl) ?_) | ((with_reducible refine q_gl 29 ?_); refine q_ld1g O_ern rfl rfl M.out (by repeat constructor) (by exact rfl) ?_) | (go_at_call 17; (with_reducible refine (parsec_ok (s := s) _ (by omega) HP.out).mono ?_); rintro e w' ⟨m1, A1, c1, css1, rfl, hc, hsg, hb⟩; have HC1 := Lib.hid hc; have Mn := M.out.addK (G := fun K y => SegsC K m1 y A1 css1 p.segs) (fun h hk => SegsC.keep h hk) hb hsg; replace M := Lib.hid Mn; clear Mn hb hsg hc) | (go_at_call 17; (with_reducible refine (parsec_err (s := t) _ (by omega) HQ.out).mono ?_); rintro e w' ⟨rfl, hb⟩; replace M := Lib.hid (M.out.bel hb); clear hb))
  go_ret
  exact ⟨rfl, M.out.bel0⟩
set_option maxRecDepth 100000 in
set_option maxHeartbeats 2000000 in
theorem qtwo_ok (s t : ByteArray) (w : World) (ht : Tab w) (h1 : s.size ≤ 200) (h2 : t.size ≤ 200) (p q : PathT) (hp : parseT true s.data.toList = .ok p) (hq : parseT true t.data.toList = .ok q) : Calls Tryz.prog 7 #[.string s, .string t] w fun e w' => e = .returned (.bool true) ∧ Bel w.heap.size w w' := by
  have M := Lib.hid (Own.start [] w (fun _ => True) fun _ _ => trivial)
  have HT := Lib.hid ht
  clear ht
  obtain ⟨a1, a2, a3⟩ := parse_wf800 hp (by rw [len_toList]; omega)
  obtain ⟨b1, b2, b3⟩ := parse_wf800 hq (by rw [len_toList]; omega)
  obtain ⟨Y, hY, hb⟩ := show_both a3 b3
  have hn1 : p.segs.length ≤ 1600 := Nat.le_trans (segs_wt _ p) a2
  have hn2 : q.segs.length ≤ 1600 := Nat.le_trans (segs_wt _ q) b2
  have hlA := show_le a1 a2
  have hlB := show_le b1 b2
  have hwf : WfP (SS 1600) (WfN (SS 1600) 200) ⟨true, p.segs ++ q.segs⟩ := fun s hs => (List.mem_append.1 hs).elim (a1 s) (b1 s)
  have hSA := fun (m1 c1 : Nat) (A1 : Option Addr) (css1 : List (List Value)) (W : World) (hv : SegsC (Fr w) m1 W A1 css1 p.segs) (hc : p.segs.length ≤ c1 ∧ c1 ≤ 9223372036854775807) (hT : Tab W) => showc_any (N := 1600) (by omega) p A1 c1 m1 css1 w W a1 hv hc hT (by omega)
  have hSB := fun (m1 c1 : Nat) (A1 : Option Addr) (css1 : List (List Value)) (W : World) (hv : SegsC (Fr w) m1 W A1 css1 q.segs) (hc : q.segs.length ≤ c1 ∧ c1 ≤ 9223372036854775807) (hT : Tab W) => showc_any (N := 1600) (by omega) q A1 c1 m1 css1 w W b1 hv hc hT (by omega)
  have hSC := fun (m c : Nat) (A : Option Addr) (W : World) (hv : SegsG (Lw W) (ExR (Lw W) m W) W (.slice A (p.segs.length + q.segs.length) c) (p.segs ++ q.segs)) (hT : Tab W) => wshow_any (N := 1600) (by omega) ⟨true, p.segs ++ q.segs⟩ _ m W hwf hv hT (by rw [hb]; rw [hY] at hlB; simp at hlB ⊢; omega)
  rw [hY] at hSB hlB
  rw [hb] at hSC
  obtain ⟨X, hX⟩ : ∃ X, showT p = X := ⟨_, rfl⟩
  rw [hX] at hSA hSC hlA
  rw [List.length_cons] at hlB
  have HPA := Lib.hid hSA
  have HPB := Lib.hid hSB
  have HPC := Lib.hid hSC
  have HP := Lib.hid hp
  have HQ := Lib.hid hq
  clear hp hq hSA hSB hSC hX hb hY a1 a2 a3 b1 b2 b3 hwf
  go_enter Tryz.func7, Tryz.ntmps7
  go_upto_region 7 with (first | (go_at_call 16; (with_reducible refine (awake18 _ (HT.out.bel M.out.bel0 (Nat.le_refl _))).mono ?_); rintro e w' ⟨rfl, hb⟩; replace M := Lib.hid (M.out.bel hb); clear hb) | ((with_reducible refine g_al 37 5 ?_); refine l_al F_Path M.out ?_; clear M; intro g5 w' hg5 M) | ((with_reducible refine g_al 31 6 ?_); refine l_al F_Flq M.out ?_; clear M; intro g6 w' hg6 M) | ((with_reducible refine g_al 37 7 ?_); refine l_al F_Path M.out ?_; clear M; intro g7 w' hg7 M) | ((with_reducible refine g_al 31 8 ?_); refine l_al F_Flq M.out ?_; clear M; intro g8 w' hg8 M) | ((with_reducible refine g_st 37 ?_); refine l_st F_Path rfl rfl M.out (by repeat constructor) (by exact rfl) (by exact rfl) (by exact rfl) ?_; clear M; intro w' M) | ((with_reducible refine g_st 31 ?_); refine l_st F_Flq rfl rfl M.out (by repeat constructor) (by exact rfl) (by exact rfl) (by exact rfl) ?_; clear M; intro w' M) | ((with_reducible refine g_ld 29 ?_); refine l_ld1 O_ern rfl M.out (by repeat constructor) (by exact rfl) ?_) | ((with_reducible refine q_gl 29 ?_); refine q_ld1g O_ern rfl rfl M.out (by repeat constructor) (by exact rfl) ?_) | (go_at_call 17; (with_reducible refine (parsec_ok (s := s) _ (by omega) HP.out).mono ?_); rintro e w' ⟨m1, A1, c1, css1, rfl, hc, hsg, hb⟩; have HC1 := Lib.hid hc; have Mn := M.out.addK (G := fun K y => SegsC K m1 y A1 css1 p.segs) (fun h hk => SegsC.keep h hk) hb hsg; replace M := Lib.hid Mn; clear Mn hb hsg hc) | (go_at_call 17; (with_reducible refine (parsec_ok (s := t) _ (by omega) HQ.out).mono ?_); rintro e w' ⟨m2, A2, c2, css2, rfl, hc, hsg, hb⟩; have HC2 := Lib.hid hc; have Mn := M.out.addK (G := fun K y => SegsC K m2 y A2 css2 q.segs) (fun h hk => SegsC.keep h hk) hb hsg; replace M := Lib.hid Mn; clear Mn hb hsg hc))
  replace M := Lib.hid (M.out.freeze.freeze.freeze.freeze.imp (J' := fun y => (SegsC (Fr w) m1 y A1 css1 p.segs ∧ SegsC (Fr w) m2 y A2 css2 q.segs) ∧ Blk y g5 37 #[.bool p.abs, .slice A1 p.segs.length c1] ∧ Blk y g7 37 #[.bool q.abs, .slice A2 q.segs.length c2]) fun y h => ⟨⟨h.1.1.1.1.1.2, h.1.1.1.1.2⟩, h.2, h.1.1.2⟩)
  have HSA := Lib.hid (fun (W : World) (hJ : (fun y => (SegsC (Fr w) m1 y A1 css1 p.segs ∧ SegsC (Fr w) m2 y A2 css2 q.segs) ∧ Blk y g5 37 #[.bool p.abs, .slice A1 p.segs.length c1] ∧ Blk y g7 37 #[.bool q.abs, .slice A2 q.segs.length c2]) W) (hT : Tab W) => HPA.out m1 c1 A1 css1 W hJ.1.1 HC1.out hT)
  have HSB := Lib.hid (fun (W : World) (hJ : (fun y => (SegsC (Fr w) m1 y A1 css1 p.segs ∧ SegsC (Fr w) m2 y A2 css2 q.segs) ∧ Blk y g5 37 #[.bool p.abs, .slice A1 p.segs.length c1] ∧ Blk y g7 37 #[.bool q.abs, .slice A2 q.segs.length c2]) W) (hT : Tab W) => HPB.out m2 c2 A2 css2 W hJ.1.2 HC2.out hT)
  replace M := Lib.hid M.out.drew
  refine tb (fun y => (SegsC (Fr w) m1 y A1 css1 p.segs ∧ SegsC (Fr w) m2 y A2 css2 q.segs) ∧ Blk y g5 37 #[.bool p.abs, .slice A1 p.segs.length c1] ∧ Blk y g7 37 #[.bool q.abs, .slice A2 q.segs.length c2]) M.out.now ?_
  refine tk 0 rfl M.out.now (y_ld F_Path _ g5 rfl _ _ (fun y h => h.2.1) rfl) ?_
  refine tk 2 rfl M.out.now (y_ld F_Path _ g7 rfl _ _ (fun y h => h.2.2) rfl) ?_
  refine tr [1] ?_
  refine rdy_call (HSA.out _ M.out.now (HT.out.bel M.out.bel0 (Nat.le_refl _))) (i := 1) (op := .call _) rfl (by go_simp) ?_ ?_
  · rintro e_ w' ⟨rfl, hb⟩; replace M := Lib.hid (M.out.bel hb); clear hb; refine ⟨_, rfl, ?_⟩; refine ⟨M.out.now, tn ?_⟩
    refine tr [3] ?_
    refine rdy_call (HSB.out _ M.out.now (HT.out.bel M.out.bel0 (Nat.le_refl _))) (i := 3) (op := .call _) rfl (by go_simp) ?_ ?_
    · rintro e_ w' ⟨rfl, hb⟩; replace M := Lib.hid (M.out.bel hb); clear hb; refine ⟨_, rfl, ?_⟩; refine ⟨M.out.now, tn ?_⟩
      refine tkp 4 rfl M.out.now ?_
      refine tkp 5 rfl M.out.now ?_
      refine te ?_
      go_upto_region 9 with (first | ((with_reducible refine g_al 37 11 ?_); refine l_al F_Path M.out ?_; clear M; intro g11 w' hg11 M) | ((with_reducible refine g_st 37 ?_); refine l_st F_Path rfl rfl M.out (by repeat constructor) (by exact rfl) (by exact rfl) (by exact rfl) ?_; clear M; intro w' M))
      replace M := Lib.hid (M.out.rowNil 44 2)
      go_upto_region 10 with (first | ((with_reducible refine g_ld 35 ?_); refine l_ld1 O_sSeg rfl M.out (by repeat constructor) (by exact rfl) ?_) | ((with_reducible refine g_ld 35 ?_); refine l_ld1j O_sSeg rfl M.out (fun y h => h.2.1) (by exact rfl) ?_) | ((with_reducible refine g_ap 35 52 ?_); refine q_apR SL_sGg rfl rfl M.out (by repeat constructor) (M.out.now.1.1.reads (by decide)) M.out.now.1.1.one (by unfold maxLen; omega) (by omega) ?_; intro v52 w' Mn; replace Mn := Mn _ (by repeat constructor); (try rw [List.nil_append, Nat.zero_add] at Mn); replace M := Lib.hid Mn; clear Mn; obtain ⟨An, cn, hvn, -⟩ := own_reads (M.out.row (v52, _) (by repeat constructor)); simp only at hvn; subst hvn) | ((with_reducible refine g_st 35 ?_); refine l_st1 (v := .slice An p.segs.length cn) O_sSeg rfl rfl (by exact rfl) M.out (by repeat constructor) ?_; clear M; intro w' M))
      go_upto_region 11 with (first | ((with_reducible refine g_ld 35 ?_); refine l_ld1 O_sSeg rfl M.out (by repeat constructor) (by exact rfl) ?_) | ((with_reducible refine g_ld 35 ?_); refine l_ld1j O_sSeg rfl M.out (fun y h => h.2.2) (by exact rfl) ?_) | ((with_reducible refine g_ap 35 58 ?_); refine q_apR SL_sGg rfl rfl M.out (by repeat constructor) (M.out.now.1.2.reads (by decide)) M.out.now.1.2.one (by unfold maxLen; omega) (by omega) ?_; intro v58 w' Mn; replace Mn := Mn _ (by repeat constructor); (try rw [List.nil_append, Nat.zero_add] at Mn); replace M := Lib.hid Mn; clear Mn; obtain ⟨Am, cm, hvn, -⟩ := own_reads (M.out.row (v58, _) (by repeat constructor)); simp only at hvn; subst hvn) | ((with_reducible refine g_st 35 ?_); refine l_st1 (v := .slice Am (p.segs.length + q.segs.length) cm) O_sSeg rfl rfl (by exact rfl) M.out (by repeat constructor) ?_; clear M; intro w' M))
      obtain ⟨Aq, cq, hvq, hcq, hsq, Mq⟩ := M.out.freezeRow
      simp only [Value.slice.injEq, true_and] at hvq
      obtain ⟨rfl, rfl⟩ := hvq
      replace M := Lib.hid (Mq.freeze)
      clear Mq
      have HCQ := Lib.hid hcq
      have HSQ := Lib.hid hsq
      clear hcq hsq
      have HSC := Lib.hid (fun (W : World) (hJ : (fun y => (((SegsC (Fr w) m1 y A1 css1 p.segs ∧ SegsC (Fr w) m2 y A2 css2 q.segs) ∧ Blk y g5 37 #[.bool p.abs, .slice A1 p.segs.length c1] ∧ Blk y g7 37 #[.bool q.abs, .slice A2 q.segs.length c2]) ∧ Rdd y 2 Am (p.segs.length + q.segs.length) (css1.flatten ++ css2.flatten))) W) (hT : Tab W) => HPC.out _ cm Am W (both_row hJ.1.1.1 hJ.1.1.2 hJ.2 (fun a e => (HSQ.out a e).2) ⟨HCQ.out.1, by have := HCQ.out.2; unfold maxLen at this; omega⟩) hT)
      replace M := Lib.hid M.out.drew
      refine tb (fun y => (((SegsC (Fr w) m1 y A1 css1 p.segs ∧ SegsC (Fr w) m2 y A2 css2 q.segs) ∧ Blk y g5 37 #[.bool p.abs, .slice A1 p.segs.length c1] ∧ Blk y g7 37 #[.bool q.abs, .slice A2 q.segs.length c2]) ∧ Rdd y 2 Am (p.segs.length + q.segs.length) (css1.flatten ++ css2.flatten)) ∧ Blk y g11 37 #[.bool true, .slice Am (p.segs.length + q.segs.length) cm]) M.out.now ?_
      refine tkp 0 rfl M.out.now ?_
      refine tkp 1 rfl M.out.now ?_
      refine tkp 2 rfl M.out.now ?_
      refine tkp 3 rfl M.out.now ?_
      refine tk 4 rfl M.out.now (q_ldG F_Path _ g11 rfl _ _ (fun y h => h.2) rfl) ?_
      refine tkp 6 rfl M.out.now ?_
      refine tkp 7 rfl M.out.now ?_
      refine tkp 8 rfl M.out.now ?_ (v := .string (bs Y)) (hv := by intro w hS; go_simp; rw [if_pos (show 1 ≤ (((bs (36 :: Y)).size : Nat) : Int) by rw [bs_size2, List.length_cons]; omega)]; exact congrArg (fun s => Result.ok (Next.value (Value.string s)) w) (bs_tail 36 Y))
      refine tkp 9 rfl M.out.now ?_ (v := .string (bs (X ++ Y))) (hv := by intro w hS; go_simp; rw [if_neg (show ¬ 9223372036854775807 < (bs X).size + (bs Y).size by rw [bs_size2, bs_size2]; omega), bs_app2])
      refine tr [5] ?_
      refine q_callg (HSC.out _ M.out.now.1 (HT.out.bel M.out.bel0 (Nat.le_refl _))) (i := 5) (op := .call _) rfl rfl (by go_simp) ?_ ?_
      · rintro e_ w' ⟨rfl, hb⟩; replace M := Lib.hid (M.out.bel hb); clear hb; refine ⟨_, rfl, ?_⟩; refine ⟨M.out.now, tn ?_⟩
        refine tkp 10 rfl M.out.now ?_ (v := .bool true) (hv := by intro w hS; go_simp)
        refine tkp 11 rfl M.out.now ?_
        refine tkp 12 rfl M.out.now ?_
        refine te ?_
        go_wp2
        go_ret
        exact ⟨rfl, M.out.bel0⟩
      exact .nil
    exact .nil
  exact .nil
theorem qtwo_any (s t : ByteArray) (w : World) (ht : Tab w) (_ : s.size ≤ maxLen) (_ : t.size ≤ maxLen) : Calls Tryz.prog 7 #[.string s, .string t] w fun e w' => e = .returned (.bool true) ∧ Bel w.heap.size w w' := by
  by_cases h1 : s.size ≤ 200
  · by_cases h2 : t.size ≤ 200
    · cases hp : parseT true s.data.toList with
      | error x => exact qtwo_err1 s t w ht h1 h2 x.1 x.2 hp _ rfl
      | ok p =>
        cases hq : parseT true t.data.toList with
        | error x => exact qtwo_err2 s t w ht h1 h2 p hp x.1 x.2 hq
        | ok q => exact qtwo_ok s t w ht h1 h2 p q hp hq
    · exact qtwo_long2 s t w ht h1 (by omega)
  · exact qtwo_long1 s t w ht (by omega)


end Go.Proofs.YtpcbcodmocmilaaGreatDoor
