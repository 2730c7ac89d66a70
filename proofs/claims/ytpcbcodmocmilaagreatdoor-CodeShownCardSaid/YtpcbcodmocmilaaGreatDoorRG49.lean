/- RG49: Rb, Rc, Rd, Fc, Jb joined. -/
import Derived.Deep.RegionHeld3
import Derived.Test.YtpcbcodmocmilaaGreatDoorRG09
import Derived.Test.YtpcbcodmocmilaaGreatDoorRG12
import Derived.Test.YtpcbcodmocmilaaGreatDoorRG31
import Derived.Test.YtpcbcodmocmilaaGreatDoorRG36
import Derived.Test.YtpcbcodmocmilaaGreatDoorRJa
namespace Go.Proofs.YtpcbcodmocmilaaGreatDoor
open Go.RowKit
/- ref17: the comparing of trees that are one (printed by gen_same.py). -/
section
open Go.RowKit

theorem Bel.some {W w1 : World} (hb : Bel W.heap.size W w1) {a : Addr} {v : Value} (h : W.cell? a = some v) : w1.cell? a = some v := by
  by_cases hl : a.block < W.heap.size
  · exact (hb.cell hl).trans h
  · exfalso
    have hn : W.heap[a.block]? = none := Array.getElem?_eq_none (by omega)
    unfold World.cell? at h
    rw [hn] at h
    simp at h
theorem RowG.at_ {α : Type} {K : Nat → Prop} {k : Nat} {R : List Value → α → Prop} {w : World} {A : Option Addr} {n c : Nat} {l : List α} (h : RowG K k R w (.slice A n c) l) {i : Nat} {x : α} (hx : l[i]? = some x) :
    ∃ b off, ∃ cs : List Value, A = some ⟨b, off, none⟩ ∧ b < w.heap.size ∧ cs.length = k ∧ (∀ (j : Nat) u, cs[j]? = some u → w.cell? ⟨b, off + i * k + j, none⟩ = some u) ∧ R cs x := by
  obtain ⟨A', cap, e1, -, h3⟩ := h
  obtain ⟨b, off, rfl, hK, hb, hc⟩ := h3.resolve_left (by intro e; rw [e] at hx; simp at hx)
  obtain ⟨cs, hl, hcs, hr⟩ := hc i x hx
  exact ⟨b, off, cs, (Value.slice.inj e1).1, hb, hl, hcs, hr⟩
end
/- ref17: Same (over sameSel) (printed by gen_same2.py). -/
section
open Go.RowKit

theorem RowG.cap {α : Type} {K : Nat → Prop} {k : Nat} {R : List Value → α → Prop} {w : World} {A : Option Addr} {n c : Nat} {l : List α} (h : RowG K k R w (.slice A n c) l) : l.length ≤ 9223372036854775807 := by
  obtain ⟨A', cap, e, h2, -⟩ := h
  omega
/-- A selector in a row. -/
theorem RowG.sel {K : Nat → Prop} {R : List Value → ExprT → Prop} {w : World} {A : Option Addr} {n c : Nat} {l : List SelT} (h : RowG K 9 (SelC K R w) w (.slice A n c) l) {i : Nat} {x : SelT} (hx : l[i]? = some x) :
    ∃ b off pv, A = some ⟨b, off, none⟩ ∧ b < w.heap.size ∧ (w.cell? ⟨b, off + i * 9, none⟩ = some (.int .i64 x.kind) ∧ w.cell? ⟨b, off + i * 9 + 1, none⟩ = some (.string (bs x.name)) ∧ w.cell? ⟨b, off + i * 9 + 2, none⟩ = some (.int .i64 x.index) ∧ w.cell? ⟨b, off + i * 9 + 3, none⟩ = some (.int .i64 x.fr) ∧ w.cell? ⟨b, off + i * 9 + 4, none⟩ = some (.int .i64 x.tt) ∧ w.cell? ⟨b, off + i * 9 + 5, none⟩ = some (.int .i64 x.step) ∧ w.cell? ⟨b, off + i * 9 + 6, none⟩ = some (.bool x.hf) ∧ w.cell? ⟨b, off + i * 9 + 7, none⟩ = some (.bool x.ht) ∧ w.cell? ⟨b, off + i * 9 + 8, none⟩ = some pv) ∧ PtrG K R w pv x.f := by
  obtain ⟨b, off, cs, rfl, hb, -, hc, pv, rfl, hp⟩ := h.at_ hx
  exact ⟨b, off, pv, rfl, hb, ⟨hc 0 _ rfl, hc 1 _ rfl, hc 2 _ rfl, hc 3 _ rfl, hc 4 _ rfl, hc 5 _ rfl, hc 6 _ rfl, hc 7 _ rfl, hc 8 _ rfl⟩, hp⟩
end
/- ref17: sameExpr, and Same of one tree (printed by gen_same3.py). -/
section
open Go.RowKit

end
/- law18: QshowBack (printed by gen_fc.py). -/
section
open Go.RowKit

theorem q_ldS {P : Program} {X : List Nat} {w0 w : World} {L : List BlkE} {rs : List RowE} {J : World → Prop} {ops : Array Oper} {rest : List Oper} {a : Act} {Q : Exit → Act → World → Prop} {dst : Option Tmp} {tt : TypeId} {pos : String} {af : Array Edge} {T : TypeId} {n : Nat} {z : Array Value} (F : TyF P T n z) {gd : Nat × Bool} {x : Operand} {g : Nat} {T' : TypeId} {cs : Array Value} (hw : Region.wanted ⟨dst, .load T x, tt, pos, af, some gd⟩ (yielded ops a.tmps) = true) (hx : a.eval x = .pointer (some ⟨g, 0, none⟩)) (M : Own X w0 w L rs J) (hm : (g, T', cs) ∈ L) (hn : cs.size = n)
    (h : wpList P ops Q rest (a.put dst (.agg cs)) w) : wpList P ops Q (⟨dst, .load T x, tt, pos, af, some gd⟩ :: rest) a w := by
  obtain ⟨d, hu, hd⟩ := F.u
  exact wpList_step fun _ hK => by
    rw [if_pos hw]
    exact wp_load_row T x rfl g hx T' cs (0, 0) d (M.blk _ hm) hu (by cases d <;> first | rfl | cases hd) (by rw [hn]; exact F.s) (hK _ _ h)
set_option maxRecDepth 100000 in
set_option maxHeartbeats 4000000 in
/-- Lex of what is too long. -/
theorem lexq_long (s : ByteArray) (w : World) (hlong : 4096 < s.size) (hs : s.size ≤ 1000000000) : Calls Tryz.prog 29 #[.string s] w (LexQ s.data.toList w) := by
  have hl : lexL s.data.toList = .error (4, 0) := lexL_long (by rw [len_toList]; exact hlong)
  have hst : stOf s.data.toList = ⟨[], 4, 0⟩ := by unfold stOf; rw [hl]; rfl
  have HP := Lib.hid (show ∀ w', Bel w.heap.size w w' → LexQ s.data.toList w (.returned (.tuple #[.slice none 0 0, .agg #[.int .i64 4, .int .i64 0]])) w' from fun w' hb => by
    unfold LexQ
    rw [hst]
    exact ⟨none, 0, rfl, ⟨Nat.le_refl _, by omega, Nat.zero_le _⟩, .inl rfl, hb⟩)
  clear hl hst
  go_enter Tryz.func29, Tryz.ntmps29
  generalize hQ : bodyPost Tryz.prog Tryz.f29 (LexQ s.data.toList w) = Q
  have HQ := Lib.hid hQ; clear hQ
  go_wp2
  rw [← HQ.out]
  exact bodyPost_ret (v := .tuple #[.slice none 0 0, .agg #[.int .i64 4, .int .i64 0]]) (by simp [results, Tryz.results29, go_sem]) rfl (HP.out _ bel_lit)
theorem parse_long {s : ByteArray} (w : World) (h : 4096 < s.size) (hs : s.size ≤ 1000000000) : Calls Tryz.prog 17 #[.string s] w fun e w' => e = .returned (.tuple #[.agg #[.bool false, .slice none 0 0], .agg #[.int .i64 4, .int .i64 0]]) ∧ Bel w.heap.size w w' := by
  have := parse_of s w fun w => lexq_long s w h hs
  unfold ParseP at this
  rw [show_long (by rw [len_toList]; exact h)] at this
  exact this

end
/- law19: CodeShown (printed by gen_jb.py). -/
section
open Go.RowKit

theorem queryc_long {s : ByteArray} (w : World) (h : 4096 < s.size) (hs : s.size ≤ 1000000000) : Calls Tryz.prog 11 #[.string s] w fun e w' => e = .returned (.tuple #[.agg #[.slice none 0 0, .slice none 0 0, .slice none 0 0, .slice none 0 0], .agg #[.int .i64 4, .int .i64 0]]) ∧ Bel w.heap.size w w' :=
  query_errP s w 4 0 (by decide) fun w => parse_long w h hs

set_option maxRecDepth 100000 in
set_option maxHeartbeats 2000000 in
theorem csh_len (s : ByteArray) (w : World) (ht : Tab w) (h1 : 400 < s.size) : Calls Tryz.prog 9 #[.string s] w fun e w' => e = .returned (.bool true) ∧ Bel w.heap.size w w' := by
  have M := Lib.hid (Own.start [] w (fun _ => True) fun _ _ => trivial)
  have HT := Lib.hid ht
  clear ht
  have h1i : (400 : Int) < (s.size : Int) := by omega
  go_enter Tryz.func9, Tryz.ntmps9
  go_wp2_with (go_at_call 10; (with_reducible refine (awake19 _).mono ?_); rintro e w' ⟨rfl, hb⟩; replace M := Lib.hid (M.out.bel hb); clear hb)
  go_ret
  exact ⟨rfl, M.out.bel0⟩
set_option maxRecDepth 100000 in
set_option maxHeartbeats 2000000 in
theorem csh_err (s : ByteArray) (w : World) (ht : Tab w) (h1 : s.size ≤ 400) (x a : Int) (hp : parseT true s.data.toList = .error (x, a)) : Calls Tryz.prog 9 #[.string s] w fun e w' => e = .returned (.bool true) ∧ Bel w.heap.size w w' := by
  have M := Lib.hid (Own.start [] w (fun _ => True) fun _ _ => trivial)
  have HT := Lib.hid ht
  clear ht
  have hx : (x != 0) = true := by simpa using err_ne hp
  have HP := Lib.hid hp
  clear hp
  go_enter Tryz.func9, Tryz.ntmps9
  go_wp2_with (first | (go_at_call 10; (with_reducible refine (awake19 _).mono ?_); rintro e w' ⟨rfl, hb⟩; replace M := Lib.hid (M.out.bel hb); clear hb) | ((with_reducible refine g_al 28 3 ?_); refine l_al F_Code M.out ?_; clear M; intro g3 w' hg3 M) | ((with_reducible refine g_al 31 4 ?_); refine l_al F_Flq M.out ?_; clear M; intro g4 w' hg4 M) | ((with_reducible refine g_al 37 5 ?_); refine l_al F_Path M.out ?_; clear M; intro g5 w' hg5 M) | ((with_reducible refine g_al 31 6 ?_); refine l_al F_Flq M.out ?_; clear M; intro g6 w' hg6 M) | ((with_reducible refine g_al 28 8 ?_); refine l_al F_Code M.out ?_; clear M; intro g8 w' hg8 M) | ((with_reducible refine g_al 31 9 ?_); refine l_al F_Flq M.out ?_; clear M; intro g9 w' hg9 M) | ((with_reducible refine g_st 37 ?_); refine l_st F_Path rfl rfl M.out (by repeat constructor) (by exact rfl) (by exact rfl) (by exact rfl) ?_; clear M; intro w' M) | ((with_reducible refine g_st 31 ?_); refine l_st F_Flq rfl rfl M.out (by repeat constructor) (by exact rfl) (by exact rfl) (by exact rfl) ?_; clear M; intro w' M) | ((with_reducible refine g_st 28 ?_); refine l_st F_Code rfl rfl M.out (by repeat constructor) (by exact rfl) (by exact rfl) (by exact rfl) ?_; clear M; intro w' M) | ((with_reducible refine g_ld 29 ?_); refine l_ld1 O_ern rfl M.out (by repeat constructor) (by exact rfl) ?_) | ((with_reducible refine q_gl 29 ?_); refine q_ld1g O_ern rfl rfl M.out (by repeat constructor) (by exact rfl) ?_) | ((with_reducible refine g_ld 37 ?_); refine l_ld F_Path rfl M.out (by repeat constructor) (by exact rfl) ?_) | ((with_reducible refine g_ld 31 ?_); refine l_ld F_Flq rfl M.out (by repeat constructor) (by exact rfl) ?_) | ((with_reducible refine q_gl 28 ?_); refine q_ldS F_Code rfl rfl M.out (by repeat constructor) (by exact rfl) ?_) | (go_at_call 11; (with_reducible refine (queryc_err (s := s) _ (by omega) HP.out).mono ?_); rintro e w' ⟨rfl, hb⟩; replace M := Lib.hid (M.out.bel hb); clear hb) | (go_at_call 17; (with_reducible refine (parsec_err (s := s) _ (by omega) HP.out).mono ?_); rintro e w' ⟨rfl, hb⟩; replace M := Lib.hid (M.out.bel hb); clear hb))
  go_ret
  exact ⟨by simp, M.out.bel0⟩
set_option maxRecDepth 100000 in
set_option maxHeartbeats 2000000 in
theorem csh_long (s : ByteArray) (w : World) (ht : Tab w) (h1 : s.size ≤ 400) (p : PathT) (hp : parseT true s.data.toList = .ok p) (hl : 4096 < (showT p).length) : Calls Tryz.prog 9 #[.string s] w fun e w' => e = .returned (.bool true) ∧ Bel w.heap.size w w' := by
  have M := Lib.hid (Own.start [] w (fun _ => True) fun _ _ => trivial)
  have HT := Lib.hid ht
  clear ht
  obtain ⟨a1, a2, a3⟩ := parse_wf800 hp (by rw [len_toList]; omega)
  have hlA := show_le a1 a2
  have hSA := fun (m1 c1 : Nat) (A1 : Option Addr) (css1 : List (List Value)) (W : World) (hv : SegsC (Fr w) m1 W A1 css1 p.segs) (hc : p.segs.length ≤ c1 ∧ c1 ≤ 9223372036854775807) (hT : Tab W) => showc_any (N := 1600) (by omega) p A1 c1 m1 css1 w W a1 hv hc hT (by omega)
  have HWT := Lib.hid (show wtP (wtN 200) p ≤ 4000 by omega)
  obtain ⟨X, hX⟩ : ∃ X, showT p = X := ⟨_, rfl⟩
  rw [hX] at hlA hSA hl
  have hsz : (bs X).size = X.length := bs_size2 X
  have HP := Lib.hid hp
  have HPA := Lib.hid hSA
  have hli : (4096 : Int) < ((bs X).size : Int) := by omega
  clear hp hSA hX a1 a2 a3
  go_enter Tryz.func9, Tryz.ntmps9
  go_wp2_with (first | (go_at_call 10; (with_reducible refine (awake19 _).mono ?_); rintro e w' ⟨rfl, hb⟩; replace M := Lib.hid (M.out.bel hb); clear hb) | ((with_reducible refine g_al 28 3 ?_); refine l_al F_Code M.out ?_; clear M; intro g3 w' hg3 M) | ((with_reducible refine g_al 31 4 ?_); refine l_al F_Flq M.out ?_; clear M; intro g4 w' hg4 M) | ((with_reducible refine g_al 37 5 ?_); refine l_al F_Path M.out ?_; clear M; intro g5 w' hg5 M) | ((with_reducible refine g_al 31 6 ?_); refine l_al F_Flq M.out ?_; clear M; intro g6 w' hg6 M) | ((with_reducible refine g_al 28 8 ?_); refine l_al F_Code M.out ?_; clear M; intro g8 w' hg8 M) | ((with_reducible refine g_al 31 9 ?_); refine l_al F_Flq M.out ?_; clear M; intro g9 w' hg9 M) | ((with_reducible refine g_st 37 ?_); refine l_st F_Path rfl rfl M.out (by repeat constructor) (by exact rfl) (by exact rfl) (by exact rfl) ?_; clear M; intro w' M) | ((with_reducible refine g_st 31 ?_); refine l_st F_Flq rfl rfl M.out (by repeat constructor) (by exact rfl) (by exact rfl) (by exact rfl) ?_; clear M; intro w' M) | ((with_reducible refine g_st 28 ?_); refine l_st F_Code rfl rfl M.out (by repeat constructor) (by exact rfl) (by exact rfl) (by exact rfl) ?_; clear M; intro w' M) | ((with_reducible refine g_ld 29 ?_); refine l_ld1 O_ern rfl M.out (by repeat constructor) (by exact rfl) ?_) | ((with_reducible refine q_gl 29 ?_); refine q_ld1g O_ern rfl rfl M.out (by repeat constructor) (by exact rfl) ?_) | ((with_reducible refine g_ld 37 ?_); refine l_ld F_Path rfl M.out (by repeat constructor) (by exact rfl) ?_) | ((with_reducible refine g_ld 31 ?_); refine l_ld F_Flq rfl M.out (by repeat constructor) (by exact rfl) ?_) | ((with_reducible refine q_gl 28 ?_); refine q_ldS F_Code rfl rfl M.out (by repeat constructor) (by exact rfl) ?_) | (go_at_call 11; (with_reducible refine (queryc_ok (s := s) (p := p) _ (by omega) HP.out HWT.out).mono ?_); rintro e w' ⟨A1, A2, A3, A4, k1, k2, k3, k4, rfl, hcr, ⟨f1, f2, f3, f4⟩, -, hb⟩; have HFA := Lib.hid (show (∀ a, A1 = some a → a.spot = none) ∧ (∀ a, A2 = some a → a.spot = none) ∧ (∀ a, A3 = some a → a.spot = none) ∧ (∀ a, A4 = some a → a.spot = none) from ⟨fun a e => (f1 a e).2, fun a e => (f2 a e).2, fun a e => (f3 a e).2, fun a e => (f4 a e).2⟩); have Mn := M.out.addC hb hcr f1 f2 f3 f4; replace M := Lib.hid Mn; clear Mn hb hcr f1 f2 f3 f4) | (go_at_call 17; (with_reducible refine (parsec_ok (s := s) _ (by omega) HP.out).mono ?_); rintro e w' ⟨m9, A9, c9, css9, rfl, hc, hsg, hb⟩; have HC9 := Lib.hid hc; have Mn := M.out.addK (G := fun K y => SegsC K m9 y A9 css9 p.segs) (fun h hk => SegsC.keep h hk) hb hsg; replace M := Lib.hid Mn; clear Mn hb hsg hc) | (go_at_call 18; (with_reducible refine (HPA.out m9 c9 A9 css9 _ (M.out.now.2) HC9.out (HT.out.bel M.out.bel0 (Nat.le_refl _))).mono ?_); rintro e w' ⟨rfl, hb⟩; replace M := Lib.hid (M.out.bel hb); clear hb) | (go_at_call 11; (with_reducible refine (queryc_long (s := bs X) _ (by omega) (by omega)).mono ?_); rintro e w' ⟨rfl, hb⟩; replace M := Lib.hid (M.out.bel hb); clear hb))
  go_ret
  exact ⟨rfl, M.out.bel0⟩
set_option maxRecDepth 100000 in
set_option maxHeartbeats 2000000 in
theorem csh_ok (s : ByteArray) (w : World) (ht : Tab w) (h1 : s.size ≤ 400) (p : PathT) (hp : parseT true s.data.toList = .ok p) (hl : (showT p).length ≤ 4096) : Calls Tryz.prog 9 #[.string s] w fun e w' => e = .returned (.bool true) ∧ Bel w.heap.size w w' := by
  have M := Lib.hid (Own.start [] w (fun _ => True) fun _ _ => trivial)
  have HT := Lib.hid ht
  clear ht
  obtain ⟨a1, a2, a3⟩ := parse_wf800 hp (by rw [len_toList]; omega)
  have hlA := show_le a1 a2
  have hSA := fun (m1 c1 : Nat) (A1 : Option Addr) (css1 : List (List Value)) (W : World) (hv : SegsC (Fr w) m1 W A1 css1 p.segs) (hc : p.segs.length ≤ c1 ∧ c1 ≤ 9223372036854775807) (hT : Tab W) => showc_any (N := 1600) (by omega) p A1 c1 m1 css1 w W a1 hv hc hT (by omega)
  have HWT := Lib.hid (show wtP (wtN 200) p ≤ 4000 by omega)
  have hpx : parseT true (bs (showT p)).data.toList = .ok p := by rw [bs_list]; exact show_back hp hl
  have HSZ := Lib.hid (show (codeT p).ps.length + (codeT p).gs.length + (codeT p).ss.length + (codeT p).is.length ≤ 9000000000 by
    obtain ⟨_, _, _, h, _⟩ := code_good a1 (by omega)
    unfold szC at h
    omega)
  obtain ⟨X, hX⟩ : ∃ X, showT p = X := ⟨_, rfl⟩
  rw [hX] at hlA hSA hl hpx
  have hsz : (bs X).size = X.length := bs_size2 X
  have HP := Lib.hid hp
  have HPA := Lib.hid hSA
  have hli : ¬ (4096 : Int) < ((bs X).size : Int) := by omega
  have hli2 : decide ((4096 : Int) < ((bs X).size : Int)) = false := by simp; omega
  have hli3 : decide ((4096 : Int) < (X.length : Int)) = false := by simp; omega
  have HPX := Lib.hid hpx
  clear hp hSA hX a1 a2 a3 hpx
  go_enter Tryz.func9, Tryz.ntmps9
  go_wp2_with (first | (go_at_call 10; (with_reducible refine (awake19 _).mono ?_); rintro e w' ⟨rfl, hb⟩; replace M := Lib.hid (M.out.bel hb); clear hb) | ((with_reducible refine g_al 28 3 ?_); refine l_al F_Code M.out ?_; clear M; intro g3 w' hg3 M) | ((with_reducible refine g_al 31 4 ?_); refine l_al F_Flq M.out ?_; clear M; intro g4 w' hg4 M) | ((with_reducible refine g_al 37 5 ?_); refine l_al F_Path M.out ?_; clear M; intro g5 w' hg5 M) | ((with_reducible refine g_al 31 6 ?_); refine l_al F_Flq M.out ?_; clear M; intro g6 w' hg6 M) | ((with_reducible refine g_al 28 8 ?_); refine l_al F_Code M.out ?_; clear M; intro g8 w' hg8 M) | ((with_reducible refine g_al 31 9 ?_); refine l_al F_Flq M.out ?_; clear M; intro g9 w' hg9 M) | ((with_reducible refine g_st 37 ?_); refine l_st F_Path rfl rfl M.out (by repeat constructor) (by exact rfl) (by exact rfl) (by exact rfl) ?_; clear M; intro w' M) | ((with_reducible refine g_st 31 ?_); refine l_st F_Flq rfl rfl M.out (by repeat constructor) (by exact rfl) (by exact rfl) (by exact rfl) ?_; clear M; intro w' M) | ((with_reducible refine g_st 28 ?_); refine l_st F_Code rfl rfl M.out (by repeat constructor) (by exact rfl) (by exact rfl) (by exact rfl) ?_; clear M; intro w' M) | ((with_reducible refine g_ld 29 ?_); refine l_ld1 O_ern rfl M.out (by repeat constructor) (by exact rfl) ?_) | ((with_reducible refine q_gl 29 ?_); refine q_ld1g O_ern rfl rfl M.out (by repeat constructor) (by exact rfl) ?_) | ((with_reducible refine g_ld 37 ?_); refine l_ld F_Path rfl M.out (by repeat constructor) (by exact rfl) ?_) | ((with_reducible refine g_ld 31 ?_); refine l_ld F_Flq rfl M.out (by repeat constructor) (by exact rfl) ?_) | ((with_reducible refine q_gl 28 ?_); refine q_ldS F_Code rfl rfl M.out (by repeat constructor) (by exact rfl) ?_) | (go_at_call 11; (with_reducible refine (queryc_ok (s := s) (p := p) _ (by omega) HP.out HWT.out).mono ?_); rintro e w' ⟨A1, A2, A3, A4, k1, k2, k3, k4, rfl, hcr, ⟨f1, f2, f3, f4⟩, -, hb⟩; have HFA := Lib.hid (show (∀ a, A1 = some a → a.spot = none) ∧ (∀ a, A2 = some a → a.spot = none) ∧ (∀ a, A3 = some a → a.spot = none) ∧ (∀ a, A4 = some a → a.spot = none) from ⟨fun a e => (f1 a e).2, fun a e => (f2 a e).2, fun a e => (f3 a e).2, fun a e => (f4 a e).2⟩); have Mn := M.out.addC hb hcr f1 f2 f3 f4; replace M := Lib.hid Mn; clear Mn hb hcr f1 f2 f3 f4) | (go_at_call 17; (with_reducible refine (parsec_ok (s := s) _ (by omega) HP.out).mono ?_); rintro e w' ⟨m9, A9, c9, css9, rfl, hc, hsg, hb⟩; have HC9 := Lib.hid hc; have Mn := M.out.addK (G := fun K y => SegsC K m9 y A9 css9 p.segs) (fun h hk => SegsC.keep h hk) hb hsg; replace M := Lib.hid Mn; clear Mn hb hsg hc) | (go_at_call 18; (with_reducible refine (HPA.out m9 c9 A9 css9 _ (M.out.now.2) HC9.out (HT.out.bel M.out.bel0 (Nat.le_refl _))).mono ?_); rintro e w' ⟨rfl, hb⟩; replace M := Lib.hid (M.out.bel hb); clear hb) | (go_at_call 11; (with_reducible refine (queryc_ok (s := (bs X)) (p := p) _ (by omega) HPX.out HWT.out).mono ?_); rintro e w' ⟨B1, B2, B3, B4, r1, r2, r3, r4, rfl, hcr, ⟨f1, f2, f3, f4⟩, -, hb⟩; have HFB := Lib.hid (show (∀ a, B1 = some a → a.spot = none) ∧ (∀ a, B2 = some a → a.spot = none) ∧ (∀ a, B3 = some a → a.spot = none) ∧ (∀ a, B4 = some a → a.spot = none) from ⟨fun a e => (f1 a e).2, fun a e => (f2 a e).2, fun a e => (f3 a e).2, fun a e => (f4 a e).2⟩); have Mn := M.out.addC hb hcr f1 f2 f3 f4; replace M := Lib.hid Mn; clear Mn hb hcr f1 f2 f3 f4) | (go_at_call 13; (with_reducible refine (rsame19_one (codeT p) A1 A2 A3 A4 B1 B2 B3 B4 k1 k2 k3 k4 r1 r2 r3 r4 _ M.out.now.1.1.2 M.out.now.2 HFA.out HFB.out HSZ.out).mono ?_); rintro e w' ⟨rfl, hb⟩; replace M := Lib.hid (M.out.bel hb); clear hb))
  go_ret
  exact ⟨rfl, M.out.bel0⟩
theorem csh_any (s : ByteArray) (w : World) (ht : Tab w) (_ : s.size ≤ maxLen) : Calls Tryz.prog 9 #[.string s] w fun e w' => e = .returned (.bool true) ∧ Bel w.heap.size w w' := by
  by_cases h1 : s.size ≤ 400
  · cases hp : parseT true s.data.toList with
    | error x => exact csh_err s w ht h1 x.1 x.2 hp
    | ok p =>
      by_cases hl : (showT p).length ≤ 4096
      · exact csh_ok s w ht h1 p hp hl
      · exact csh_long s w ht h1 p hp (by omega)
  · exact csh_len s w ht (by omega)


end

end Go.Proofs.YtpcbcodmocmilaaGreatDoor
