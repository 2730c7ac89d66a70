/- law18: QshowBack (printed by gen_fc.py). -/
import Derived.Test.YtpcbcodmocmilaaGreatDoorFb
import Derived.Test.YtpcbcodmocmilaaGreatDoorG45
import Derived.Test.YtpcbcodmocmilaaGreatDoorRd
namespace Go.Proofs.YtpcbcodmocmilaaGreatDoor
open Go.RowKit

theorem q_ldS {P : Program} {X : List Nat} {w0 w : World} {L : List BlkE} {rs : List RowE} {J : World → Prop} {ops : Array Oper} {rest : List Oper} {a : Act} {Q : Exit → Act → World → Prop} {dst : Option Tmp} {tt : TypeId} {pos : String} {af : Array Edge} {T : TypeId} {n : Nat} {z : Array Value} (F : TyF P T n z) {gd : Nat × Bool} {x : Operand} {g : Nat} {T' : TypeId} {cs : Array Value} (hw : Region.wanted ⟨dst, .load T x, tt, pos, af, some gd⟩ (yielded ops a.tmps) = true) (hx : a.eval x = .pointer (some ⟨g, 0, none⟩)) (M : Own X w0 w L rs J) (hm : (g, T', cs) ∈ L) (hn : cs.size = n)
    (h : wpList P ops Q rest (a.put dst (.agg cs)) w) : wpList P ops Q (⟨dst, .load T x, tt, pos, af, some gd⟩ :: rest) a w := by
  obtain ⟨d, hu, hd⟩ := F.u
  exact wpList_step fun _ hK => by
    rw [if_pos hw]
    exact wp_load_row T x rfl g hx T' cs (0, 0) d (M.blk _ hm) hu (by cases d <;> first | rfl | cases hd) (by rw [hn]; exact F.s) (hK _ _ h)
set_option maxRecDepth 100000 in
set_option maxHeartbeats 4000000 in
/-- Lex of what is too long. -/
theorem lexq_long (s : ByteArray) (w : World) (hlong : 4096 < s.size) (hs : s.size ≤ 1000000000) : Calls Tryz.prog 29 #[.string s] w (LexQ s.data.toList w) := by
  have hl : lexL s.data.toList = .error (4, 0) := lexL_long (by rw [len_toList]; exact hlong)
  have hst : stOf s.data.toList = ⟨[], 4, 0⟩ := by unfold stOf; rw [hl]; rfl
  have HP := Lib.hid (show ∀ w', Bel w.heap.size w w' → LexQ s.data.toList w (.returned (.tuple #[.slice none 0 0, .agg #[.int .i64 4, .int .i64 0]])) w' from fun w' hb => by
    unfold LexQ
    rw [hst]
    exact ⟨none, 0, rfl, ⟨Nat.le_refl _, by omega, Nat.zero_le _⟩, .inl rfl, hb⟩)
  clear hl hst
  go_enter Tryz.func29, Tryz.ntmps29
  generalize hQ : bodyPost Tryz.prog Tryz.f29 (LexQ s.data.toList w) = Q
  have HQ := Lib.hid hQ; clear hQ
  go_wp2
  rw [← HQ.out]
  exact bodyPost_ret (v := .tuple #[.slice none 0 0, .agg #[.int .i64 4, .int .i64 0]]) (by simp [results, Tryz.results29, go_sem]) rfl (HP.out _ bel_lit)
theorem parse_long {s : ByteArray} (w : World) (h : 4096 < s.size) (hs : s.size ≤ 1000000000) : Calls Tryz.prog 17 #[.string s] w fun e w' => e = .returned (.tuple #[.agg #[.bool false, .slice none 0 0], .agg #[.int .i64 4, .int .i64 0]]) ∧ Bel w.heap.size w w' := by
  have := parse_of s w fun w => lexq_long s w h hs
  unfold ParseP at this
  rw [show_long (by rw [len_toList]; exact h)] at this
  exact this

theorem samec {K K' : Nat → Prop} {m m' : Nat} (p : PathT) (A B : Option Addr) (c r : Nat) {x y : List (List Value)} (w : World) (h1 : SegsC K m w A x p.segs) (h2 : SegsC K' m' w B y p.segs) (h3 : p.segs.length ≤ c ∧ c ≤ 9223372036854775807) (h4 : p.segs.length ≤ r ∧ r ≤ 9223372036854775807) : Calls Tryz.prog 19 #[.agg #[.bool p.abs, .slice A p.segs.length c], .agg #[.bool p.abs, .slice B p.segs.length r]] w fun e w' => e = .returned (.bool true) ∧ Bel w.heap.size w w' :=
  same_one p A B c r w (h1.row h3) (h2.row h4)

set_option maxRecDepth 100000 in
set_option maxHeartbeats 2000000 in
theorem qback_len (s : ByteArray) (w : World) (ht : Tab w) (h1 : 400 < s.size) : Calls Tryz.prog 5 #[.string s] w fun e w' => e = .returned (.bool true) ∧ Bel w.heap.size w w' := by
  have M := Lib.hid (Own.start [] w (fun _ => True) fun _ _ => trivial)
  have HT := Lib.hid ht
  clear ht
  have h1i : (400 : Int) < (s.size : Int) := by omega
  go_enter Tryz.func5, Tryz.ntmps5
  go_wp2_with (go_at_call 16; (with_reducible refine (awake18 _ (HT.out.bel M.out.bel0 (Nat.le_refl _))).mono ?_); rintro e w' ⟨rfl, hb⟩; replace M := Lib.hid (M.out.bel hb); clear hb)
  go_ret
  exact ⟨rfl, M.out.bel0⟩
set_option maxRecDepth 100000 in
set_option maxHeartbeats 2000000 in
theorem qback_err (s : ByteArray) (w : World) (ht : Tab w) (h1 : s.size ≤ 400) (x a : Int) (hp : parseT true s.data.toList = .error (x, a)) : Calls Tryz.prog 5 #[.string s] w fun e w' => e = .returned (.bool true) ∧ Bel w.heap.size w w' := by
  have M := Lib.hid (Own.start [] w (fun _ => True) fun _ _ => trivial)
  have HT := Lib.hid ht
  clear ht
  have hx : (x != 0) = true := by simpa using err_ne hp
  have HP := Lib.hid hp
  clear hp
  go_enter Tryz.func5, Tryz.ntmps5
  go_wp2_with (first | (go_at_call 16; (with_reducible refine (awake18 _ (HT.out.bel M.out.bel0 (Nat.le_refl _))).mono ?_); rintro e w' ⟨rfl, hb⟩; replace M := Lib.hid (M.out.bel hb); clear hb) | ((with_reducible refine g_al 37 3 ?_); refine l_al F_Path M.out ?_; clear M; intro g3 w' hg3 M) | ((with_reducible refine g_al 31 4 ?_); refine l_al F_Flq M.out ?_; clear M; intro g4 w' hg4 M) | ((with_reducible refine g_al 37 6 ?_); refine l_al F_Path M.out ?_; clear M; intro g6 w' hg6 M) | ((with_reducible refine g_al 31 7 ?_); refine l_al F_Flq M.out ?_; clear M; intro g7 w' hg7 M) | ((with_reducible refine g_st 37 ?_); refine l_st F_Path rfl rfl M.out (by repeat constructor) (by exact rfl) (by exact rfl) (by exact rfl) ?_; clear M; intro w' M) | ((with_reducible refine g_st 31 ?_); refine l_st F_Flq rfl rfl M.out (by repeat constructor) (by exact rfl) (by exact rfl) (by exact rfl) ?_; clear M; intro w' M) | ((with_reducible refine g_ld 29 ?_); refine l_ld1 O_ern rfl M.out (by repeat constructor) (by exact rfl) ?_) | ((with_reducible refine q_gl 29 ?_); refine q_ld1g O_ern rfl rfl M.out (by repeat constructor) (by exact rfl) ?_) | ((with_reducible refine g_ld 37 ?_); refine l_ld F_Path rfl M.out (by repeat constructor) (by exact rfl) ?_) | ((with_reducible refine g_ld 31 ?_); refine l_ld F_Flq rfl M.out (by repeat constructor) (by exact rfl) ?_) | ((with_reducible refine q_gl 37 ?_); refine q_ldS F_Path rfl rfl M.out (by repeat constructor) (by exact rfl) ?_) | (go_at_call 17; (with_reducible refine (parsec_err (s := s) _ (by omega) HP.out).mono ?_); rintro e w' ⟨rfl, hb⟩; replace M := Lib.hid (M.out.bel hb); clear hb))
  go_ret
  exact ⟨rfl, M.out.bel0⟩
set_option maxRecDepth 100000 in
set_option maxHeartbeats 2000000 in
theorem qback_long (s : ByteArray) (w : World) (ht : Tab w) (h1 : s.size ≤ 400) (p : PathT) (hp : parseT true s.data.toList = .ok p) (hl : 4096 < (showT p).length) : Calls Tryz.prog 5 #[.string s] w fun e w' => e = .returned (.bool true) ∧ Bel w.heap.size w w' := by
  have M := Lib.hid (Own.start [] w (fun _ => True) fun _ _ => trivial)
  have HT := Lib.hid ht
  clear ht
  obtain ⟨a1, a2, a3⟩ := parse_wf800 hp (by rw [len_toList]; omega)
  have hlA := show_le a1 a2
  have hSA := fun (m1 c1 : Nat) (A1 : Option Addr) (css1 : List (List Value)) (W : World) (hv : SegsC (Fr w) m1 W A1 css1 p.segs) (hc : p.segs.length ≤ c1 ∧ c1 ≤ 9223372036854775807) (hT : Tab W) => showc_any (N := 1600) (by omega) p A1 c1 m1 css1 w W a1 hv hc hT (by omega)
  obtain ⟨X, hX⟩ : ∃ X, showT p = X := ⟨_, rfl⟩
  rw [hX] at hlA hSA hl
  have hsz : (bs X).size = X.length := bs_size2 X
  have HP := Lib.hid hp
  have HPA := Lib.hid hSA
  have hli : (4096 : Int) < ((bs X).size : Int) := by omega
  clear hp hSA hX a1 a2 a3
  go_enter Tryz.func5, Tryz.ntmps5
  go_wp2_with (first | (go_at_call 16; (with_reducible refine (awake18 _ (HT.out.bel M.out.bel0 (Nat.le_refl _))).mono ?_); rintro e w' ⟨rfl, hb⟩; replace M := Lib.hid (M.out.bel hb); clear hb) | ((with_reducible refine g_al 37 3 ?_); refine l_al F_Path M.out ?_; clear M; intro g3 w' hg3 M) | ((with_reducible refine g_al 31 4 ?_); refine l_al F_Flq M.out ?_; clear M; intro g4 w' hg4 M) | ((with_reducible refine g_al 37 6 ?_); refine l_al F_Path M.out ?_; clear M; intro g6 w' hg6 M) | ((with_reducible refine g_al 31 7 ?_); refine l_al F_Flq M.out ?_; clear M; intro g7 w' hg7 M) | ((with_reducible refine g_st 37 ?_); refine l_st F_Path rfl rfl M.out (by repeat constructor) (by exact rfl) (by exact rfl) (by exact rfl) ?_; clear M; intro w' M) | ((with_reducible refine g_st 31 ?_); refine l_st F_Flq rfl rfl M.out (by repeat constructor) (by exact rfl) (by exact rfl) (by exact rfl) ?_; clear M; intro w' M) | ((with_reducible refine g_ld 29 ?_); refine l_ld1 O_ern rfl M.out (by repeat constructor) (by exact rfl) ?_) | ((with_reducible refine q_gl 29 ?_); refine q_ld1g O_ern rfl rfl M.out (by repeat constructor) (by exact rfl) ?_) | ((with_reducible refine g_ld 37 ?_); refine l_ld F_Path rfl M.out (by repeat constructor) (by exact rfl) ?_) | ((with_reducible refine g_ld 31 ?_); refine l_ld F_Flq rfl M.out (by repeat constructor) (by exact rfl) ?_) | ((with_reducible refine q_gl 37 ?_); refine q_ldS F_Path rfl rfl M.out (by repeat constructor) (by exact rfl) ?_) | (go_at_call 17; (with_reducible refine (parsec_ok (s := s) _ (by omega) HP.out).mono ?_); rintro e w' ⟨m1, A1, c1, css1, rfl, hc, hsg, hb⟩; have HC1 := Lib.hid hc; have Mn := M.out.addK (G := fun K y => SegsC K m1 y A1 css1 p.segs) (fun h hk => SegsC.keep h hk) hb hsg; replace M := Lib.hid Mn; clear Mn hb hsg hc) | (go_at_call 18; (with_reducible refine (HPA.out m1 c1 A1 css1 _ (M.out.now.2) HC1.out (HT.out.bel M.out.bel0 (Nat.le_refl _))).mono ?_); rintro e w' ⟨rfl, hb⟩; replace M := Lib.hid (M.out.bel hb); clear hb) | (go_at_call 17; (with_reducible refine (parse_long (s := bs X) _ (by omega) (by omega)).mono ?_); rintro e w' ⟨rfl, hb⟩; replace M := Lib.hid (M.out.bel hb); clear hb))
  go_ret
  exact ⟨rfl, M.out.bel0⟩
set_option maxRecDepth 100000 in
set_option maxHeartbeats 2000000 in
theorem qback_ok (s : ByteArray) (w : World) (ht : Tab w) (h1 : s.size ≤ 400) (p : PathT) (hp : parseT true s.data.toList = .ok p) (hl : (showT p).length ≤ 4096) : Calls Tryz.prog 5 #[.string s] w fun e w' => e = .returned (.bool true) ∧ Bel w.heap.size w w' := by
  have M := Lib.hid (Own.start [] w (fun _ => True) fun _ _ => trivial)
  have HT := Lib.hid ht
  clear ht
  obtain ⟨a1, a2, a3⟩ := parse_wf800 hp (by rw [len_toList]; omega)
  have hlA := show_le a1 a2
  have hSA := fun (m1 c1 : Nat) (A1 : Option Addr) (css1 : List (List Value)) (W : World) (hv : SegsC (Fr w) m1 W A1 css1 p.segs) (hc : p.segs.length ≤ c1 ∧ c1 ≤ 9223372036854775807) (hT : Tab W) => showc_any (N := 1600) (by omega) p A1 c1 m1 css1 w W a1 hv hc hT (by omega)
  have hpx : parseT true (bs (showT p)).data.toList = .ok p := by rw [bs_list]; exact show_back hp hl
  obtain ⟨X, hX⟩ : ∃ X, showT p = X := ⟨_, rfl⟩
  rw [hX] at hlA hSA hl hpx
  have hsz : (bs X).size = X.length := bs_size2 X
  have HP := Lib.hid hp
  have HPA := Lib.hid hSA
  have hli : ¬ (4096 : Int) < ((bs X).size : Int) := by omega
  have hli2 : decide ((4096 : Int) < ((bs X).size : Int)) = false := by simp; omega
  have HPX := Lib.hid hpx
  clear hp hSA hX a1 a2 a3 hpx
  go_enter Tryz.func5, Tryz.ntmps5
  go_wp2_with (first | (go_at_call 16; (with_reducible refine (awake18 _ (HT.out.bel M.out.bel0 (Nat.le_refl _))).mono ?_); rintro e w' ⟨rfl, hb⟩; replace M := Lib.hid (M.out.bel hb); clear hb) | ((with_reducible refine g_al 37 3 ?_); refine l_al F_Path M.out ?_; clear M; intro g3 w' hg3 M) | ((with_reducible refine g_al 31 4 ?_); refine l_al F_Flq M.out ?_; clear M; intro g4 w' hg4 M) | ((with_reducible refine g_al 37 6 ?_); refine l_al F_Path M.out ?_; clear M; intro g6 w' hg6 M) | ((with_reducible refine g_al 31 7 ?_); refine l_al F_Flq M.out ?_; clear M; intro g7 w' hg7 M) | ((with_reducible refine g_st 37 ?_); refine l_st F_Path rfl rfl M.out (by repeat constructor) (by exact rfl) (by exact rfl) (by exact rfl) ?_; clear M; intro w' M) | ((with_reducible refine g_st 31 ?_); refine l_st F_Flq rfl rfl M.out (by repeat constructor) (by exact rfl) (by exact rfl) (by exact rfl) ?_; clear M; intro w' M) | ((with_reducible refine g_ld 29 ?_); refine l_ld1 O_ern rfl M.out (by repeat constructor) (by exact rfl) ?_) | ((with_reducible refine q_gl 29 ?_); refine q_ld1g O_ern rfl rfl M.out (by repeat constructor) (by exact rfl) ?_) | ((with_reducible refine g_ld 37 ?_); refine l_ld F_Path rfl M.out (by repeat constructor) (by exact rfl) ?_) | ((with_reducible refine g_ld 31 ?_); refine l_ld F_Flq rfl M.out (by repeat constructor) (by exact rfl) ?_) | ((with_reducible refine q_gl 37 ?_); refine q_ldS F_Path rfl rfl M.out (by repeat constructor) (by exact rfl) ?_) | (go_at_call 17; (with_reducible refine (parsec_ok (s := s) _ (by omega) HP.out).mono ?_); rintro e w' ⟨m1, A1, c1, css1, rfl, hc, hsg, hb⟩; have HC1 := Lib.hid hc; have Mn := M.out.addK (G := fun K y => SegsC K m1 y A1 css1 p.segs) (fun h hk => SegsC.keep h hk) hb hsg; replace M := Lib.hid Mn; clear Mn hb hsg hc) | (go_at_call 17; (with_reducible refine (parsec_ok (s := (bs X)) _ (by omega) HPX.out).mono ?_); rintro e w' ⟨m2, A2, c2, css2, rfl, hc, hsg, hb⟩; have HC2 := Lib.hid hc; have Mn := M.out.addK (G := fun K y => SegsC K m2 y A2 css2 p.segs) (fun h hk => SegsC.keep h hk) hb hsg; replace M := Lib.hid Mn; clear Mn hb hsg hc) | (go_at_call 18; (with_reducible refine (HPA.out m1 c1 A1 css1 _ (M.out.now.2) HC1.out (HT.out.bel M.out.bel0 (Nat.le_refl _))).mono ?_); rintro e w' ⟨rfl, hb⟩; replace M := Lib.hid (M.out.bel hb); clear hb) | (go_at_call 18; (with_reducible refine (HPA.out m2 c2 A2 css2 _ (M.out.now.2) HC2.out (HT.out.bel M.out.bel0 (Nat.le_refl _))).mono ?_); rintro e w' ⟨rfl, hb⟩; replace M := Lib.hid (M.out.bel hb); clear hb) | (go_at_call 19; (with_reducible refine (samec p A1 A2 c1 c2 _ M.out.now.1.2 M.out.now.2 HC1.out HC2.out).mono ?_); rintro e w' ⟨rfl, hb⟩; replace M := Lib.hid (M.out.bel hb); clear hb))
  go_ret
  exact ⟨rfl, M.out.bel0⟩
theorem qback_any (s : ByteArray) (w : World) (ht : Tab w) (_ : s.size ≤ maxLen) : Calls Tryz.prog 5 #[.string s] w fun e w' => e = .returned (.bool true) ∧ Bel w.heap.size w w' := by
  by_cases h1 : s.size ≤ 400
  · cases hp : parseT true s.data.toList with
    | error x => exact qback_err s w ht h1 x.1 x.2 hp
    | ok p =>
      by_cases hl : (showT p).length ≤ 4096
      · exact qback_ok s w ht h1 p hp hl
      · exact qback_long s w ht h1 p hp (by omega)
  · exact qback_len s w ht (by omega)


end Go.Proofs.YtpcbcodmocmilaaGreatDoor
