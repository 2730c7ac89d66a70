/- code: the maker in memory; put, number (printed by gen_za.py). -/
import Derived.Test.YtpcbcodmocmilaaDoorG18
namespace Go.Proofs.YtpcbcodmocmilaaDoor
open Go.RowKit

section
variable {X : List Nat} {w0 w w' : World} {L L' : List BlkE} {rs rs' : List RowE} {J : World → Prop}
theorem Own.permL (M : Own X w0 w L rs J) (h : L.Perm L') : Own X w0 w L' rs J := by
  have hp : (exO L rs).Perm (exO L' rs) := (h.map _).append_right _
  exact ⟨M.os, M.output, M.size, M.out, fun x hx => M.low x (h.mem_iff.2 hx), fun x hx => M.blk x (h.mem_iff.2 hx), M.row, hp.nodup_iff.1 M.nodup, fun y hy => M.always y ⟨hy.1, fun b h1 h2 => hy.2 b h1 fun h => h2 (hp.mem_iff.2 h)⟩⟩
theorem Own.permR (M : Own X w0 w L rs J) (h : rs.Perm rs') : Own X w0 w L rs' J := by
  have hp : (exO L rs).Perm (exO L rs') := (h.filterMap _).append_left _
  exact ⟨M.os, M.output, M.size, M.out, M.low, M.blk, fun r hr => M.row r (h.mem_iff.2 hr), hp.nodup_iff.1 M.nodup, fun y hy => M.always y ⟨hy.1, fun b h1 h2 => hy.2 b h1 fun h => h2 (hp.mem_iff.2 h)⟩⟩
/-- A cell of a row is turned. -/
theorem Own.rowSet {gr c k n j : Nat} {T : TypeId} {xs : List Value} {u : Value} (M : Own X w0 w L rs J) (hr : UpdR (.slice (some ⟨gr, 0, none⟩) n c, T, k, n, xs) (.slice (some ⟨gr, 0, none⟩) n c, T, k, n, xs.set j u) rs rs') (hj : j < n * k) :
    (∃ v, w.cell? ⟨gr, j, none⟩ = some v) ∧ w.frozen? ⟨gr, j, none⟩ = false ∧ Own X w0 (w.setCell ⟨gr, j, none⟩ u) L rs' J := by
  obtain ⟨A, B, h1, h2⟩ := hr.split
  have hrow := M.row (.slice (some ⟨gr, 0, none⟩) n c, T, k, n, xs) (by rw [h1]; simp)
  rcases hrow.2 with ⟨h, _⟩ | ⟨g', cap, cur, h, hb, hg, hle, hm, hcs, ht⟩
  · cases h
  · simp only [Value.slice.injEq, Option.some.injEq, Addr.mk.injEq, and_true, true_and] at h
    obtain ⟨rfl, rfl⟩ := h
    have hbk : Blk w gr T cur := hg
    have hcur : n * k ≤ cur.size := by rw [hcs]; exact Nat.mul_le_mul_right k hle
    refine ⟨⟨_, (hbk.cell j).trans (Array.getElem?_eq_getElem (by omega))⟩, hbk.frozen j, M.grow hr ⟨by rw [List.length_set]; exact hrow.1, .inr ⟨gr, c, cur.setIfInBounds j u, rfl, hb, hbk.set_ j u, hle, hm, by simpa using hcs, ?_⟩⟩ ⟨rfl, rfl, rfl, by simp, fun b _ hne => Below.heap_setCell w ⟨gr, j, none⟩ u b (by intro e; exact hne (by rw [e]; rfl))⟩ (.inl rfl)⟩
    have ht' : cur.toList.take (n * k) = xs := ht
    rw [← ht']
    simp only [Array.toList_setIfInBounds]
    exact List.take_set ..
variable {P : Program} {S : World → Prop} {ops : Array Oper} {rest : List Oper} {a : Act} {Q : Exit → Act → World → Prop} {K : Act → World → Prop} {md : Region.Mode} {fuel i : Nat} {listed : Array Bool} {is : List Nat} {dst : Option Tmp} {tt : TypeId} {pos : String} {af : Array Edge}
theorem o_st1r {T T' : TypeId} (F : OneF P T) {x y : Operand} {gr c k n j : Nat} {xs : List Value} {v : Value} (hx : a.eval x = .pointer (some ⟨gr, j, none⟩)) (hy : a.eval y = v) (h1 : v.oneCell' = true) (M : Own X w0 w L rs J) (hm : UpdR (.slice (some ⟨gr, 0, none⟩) n c, T', k, n, xs) (.slice (some ⟨gr, 0, none⟩) n c, T', k, n, xs.set j v) rs rs') (hj : j < n * k)
    (h : ∀ w', Own X w0 w' L rs' J → K (a.put dst undef) w') : Oper.wp P ⟨dst, .store T x y, tt, pos, af, none⟩ a w K Q := by
  subst hy
  obtain ⟨h2, h3, M'⟩ := M.rowSet hm hj
  unfold Oper.wp execOp
  simp only [hx, Instr.storeAt, Instr.sureAddr, Sem.run_bind, Sem.run_pure, Result.andThen_ok, run_store1 (P := P) gr j T _ h1 h2 h3 F.s]
  exact h _ M'
theorem r_st1r {T T' : TypeId} (F : OneF P T) {x y : Operand} (ho : ops[i]? = some ⟨dst, .store T x y, tt, pos, af, none⟩) {gr c k n j : Nat} {xs : List Value} {v : Value} (hx : a.eval x = .pointer (some ⟨gr, j, none⟩)) (hy : a.eval y = v) (h1 : v.oneCell' = true) (M : Own X w0 w L rs J) (hm : UpdR (.slice (some ⟨gr, 0, none⟩) n c, T', k, n, xs) (.slice (some ⟨gr, 0, none⟩) n c, T', k, n, xs.set j v) rs rs') (hj : j < n * k)
    (h : ∀ w', Hid (Own X w0 w' L rs' J) → S w' ∧ wpAnyH P md ops Q S fuel (listed.setIfInBounds i true) (a.put dst undef) w') (hs : AllReadyH P md ops Q S fuel listed a w is) : AllReadyH P md ops Q S fuel listed a w (i :: is) :=
  rdy ho rfl (fun _ hK => o_st1r F hx hy h1 M hm hj fun w' M => hK.out _ _ (h w' (Lib.hid M)).1 fun _ => (h w' (Lib.hid M)).2) hs
end
/-- The maker at a pointer: what it has laid, and the paths that wait. -/
def MkR (v1 v2 v3 v4 v5 : Value) (c : CodeD) (W : List (PathT × Value)) (rs : List RowE) : List RowE :=
  (v1, 42, 3, c.ps.length, c.ps.flatMap pathC) :: (v2, 44, 3, c.gs.length, c.gs.flatMap segC) :: (v3, 46, 8, c.ss.length, c.ss.flatMap selC) :: (v4, 73, 7, c.is.length, c.is.flatMap insC) :: (v5, 25, 2, W.length, W.flatMap wC) :: rs
def MkS (w0 w : World) (g : Nat) (L : List BlkE) (rs : List RowE) (J : World → Prop) (c : CodeD) (W : List (PathT × Value)) : Prop :=
  ∃ v1 v2 v3 v4 v5, Own [] w0 w ((g, 105, #[v1, v2, v3, v4, v5]) :: L) (MkR v1 v2 v3 v4 v5 c W rs) J
section
variable {w0 : World} {L : List BlkE} {rs : List RowE} {J : World → Prop}

set_option maxRecDepth 100000 in
set_option maxHeartbeats 2000000 in
theorem mput_any (g : Nat) (c : CodeD) (W : List (PathT × Value)) (x : InsD) (w : World) (h : MkS w0 w g L rs J c W) (hl : c.is.length ≤ 999999) : Calls Tryd.prog 60 #[.pointer (some ⟨g, 0, none⟩), .agg #[.int .i64 x.op, .int .i64 x.p, .int .i64 x.sign, .int .i64 x.kind, .int .i64 x.n, .string x.s, .int .i64 x.tt]] w fun e w' => e = .returned (.int .i64 (c.is.length : Int)) ∧ MkS w0 w' g L rs J ⟨c.ps, c.gs, c.ss, c.is ++ [x]⟩ W := by
  obtain ⟨v1, v2, v3, v4, v5, hM⟩ := h
  unfold MkR at hM
  have M := Lib.hid hM
  clear hM
  go_enter Tryd.func60, Tryd.ntmps60
  go_upto_region 1 with (first | ((with_reducible refine g_bx 73 3 ?_); refine l_bx rfl M.out ?_; clear M; intro g3 w' hg3 M; replace M := Lib.hid M.out.freeze))
  replace M := Lib.hid M.out.drew
  refine tb (fun y => J y ∧ Blk y g3 73 #[.int .i64 x.op, .int .i64 x.p, .int .i64 x.sign, .int .i64 x.kind, .int .i64 x.n, .string x.s, .int .i64 x.tt]) M.out.now ?_
  refine tkp 0 rfl M.out.now ?_
  refine tkp 1 rfl M.out.now ?_
  refine tkp 2 rfl M.out.now ?_
  refine tkp 3 rfl M.out.now ?_
  refine tkp 4 rfl M.out.now ?_
  refine tk 6 rfl M.out.now (y_ld F_Ins _ _ rfl _ _ (fun _ h => h.2) rfl) ?_
  refine tr [5, 7] ?_
  refine r_ld1 O_sIns (i := 5) rfl rfl M.out (by repeat constructor) (by exact rfl) ?_ ?_
  · refine ⟨M.out.now, tn ?_⟩
    refine tr [7] ?_
    refine r_bs SL_sIns (i := 7) rfl (cs := #[.int .i64 x.op, .int .i64 x.p, .int .i64 x.sign, .int .i64 x.kind, .int .i64 x.n, .string x.s, .int .i64 x.tt]) (by kernel_rfl) M.out ?_ ?_
    · clear M; intro gb w' hgb M; refine ⟨M.out.now, tn ?_⟩
      refine tr [8] ?_
      refine r_apB SL_sIns (i := 8) rfl rfl rfl M.out (by repeat constructor) (by repeat constructor) (by exact rfl) (by exact rfl) (by unfold maxLen; omega) (by omega) ?_ ?_
      · intro vn w' Mn; replace Mn := Mn _ (by repeat constructor); replace M := Lib.hid Mn; clear Mn; obtain ⟨An, cn, hvn, -⟩ := own_reads (M.out.row (vn, _) (by repeat constructor)); simp only at hvn; subst hvn; refine ⟨M.out.now, tn ?_⟩
        refine tkp 9 rfl M.out.now ?_
        refine tkp 10 rfl M.out.now ?_
        refine tkp 11 rfl M.out.now ?_
        refine tr [12] ?_
        refine r_st1 O_sIns (v := .slice An (c.is.length + 1) cn) (i := 12) rfl rfl rfl rfl M.out (by repeat constructor) ?_ ?_
        · clear M; intro w' M; refine ⟨M.out.now, tn ?_⟩
          refine te ?_
          replace M := Lib.hid (M.out.freeze.imp (J' := J) fun y h => h.1.1)
          go_wp2_with (first | ((with_reducible refine g_ld 36 ?_); refine l_ld1 O_sIns rfl M.out (by repeat constructor) (by exact rfl) ?_))
          go_ret
          exact ⟨by first | rfl | simp | go_num, v1, v2, v3, (.slice An (c.is.length + 1) cn), v5, by have h := M.out; unfold MkR; simpa [insC] using h⟩
        exact .nil
      exact .nil
    exact .nil
  refine r_bs SL_sIns (i := 7) rfl (cs := #[.int .i64 x.op, .int .i64 x.p, .int .i64 x.sign, .int .i64 x.kind, .int .i64 x.n, .string x.s, .int .i64 x.tt]) (by kernel_rfl) M.out ?_ ?_
  · clear M; intro gb w' hgb M; refine ⟨M.out.now, tn ?_⟩
    refine tr [5] ?_
    refine r_ld1 O_sIns (i := 5) rfl rfl M.out (by repeat constructor) (by exact rfl) ?_ ?_
    · refine ⟨M.out.now, tn ?_⟩
      refine tr [8] ?_
      refine r_apB SL_sIns (i := 8) rfl rfl rfl M.out (by repeat constructor) (by repeat constructor) (by exact rfl) (by exact rfl) (by unfold maxLen; omega) (by omega) ?_ ?_
      · intro vn w' Mn; replace Mn := Mn _ (by repeat constructor); replace M := Lib.hid Mn; clear Mn; obtain ⟨An, cn, hvn, -⟩ := own_reads (M.out.row (vn, _) (by repeat constructor)); simp only at hvn; subst hvn; refine ⟨M.out.now, tn ?_⟩
        refine tkp 9 rfl M.out.now ?_
        refine tkp 10 rfl M.out.now ?_
        refine tkp 11 rfl M.out.now ?_
        refine tr [12] ?_
        refine r_st1 O_sIns (v := .slice An (c.is.length + 1) cn) (i := 12) rfl rfl rfl rfl M.out (by repeat constructor) ?_ ?_
        · clear M; intro w' M; refine ⟨M.out.now, tn ?_⟩
          refine te ?_
          replace M := Lib.hid (M.out.freeze.imp (J' := J) fun y h => h.1.1)
          go_wp2_with (first | ((with_reducible refine g_ld 36 ?_); refine l_ld1 O_sIns rfl M.out (by repeat constructor) (by exact rfl) ?_))
          go_ret
          exact ⟨by first | rfl | simp | go_num, v1, v2, v3, (.slice An (c.is.length + 1) cn), v5, by have h := M.out; unfold MkR; simpa [insC] using h⟩
        exact .nil
      exact .nil
    exact .nil
  exact .nil
set_option maxRecDepth 100000 in
set_option maxHeartbeats 2000000 in
theorem mnumber_any (g : Nat) (c : CodeD) (W : List (PathT × Value)) (p : PathT) (A : Option Addr) (m cp : Nat) (w : World) (h : MkS w0 w g L rs J c W) (hl : W.length ≤ 999999) : Calls Tryd.prog 85 #[.pointer (some ⟨g, 0, none⟩), .agg #[.bool p.abs, .slice A m cp]] w fun e w' => e = .returned (.int .i64 (W.length : Int)) ∧ MkS w0 w' g L rs J c (W ++ [(p, .slice A m cp)]) := by
  obtain ⟨v1, v2, v3, v4, v5, hM⟩ := h
  unfold MkR at hM
  have M := Lib.hid hM
  clear hM
  go_enter Tryd.func85, Tryd.ntmps85
  go_upto_region 1 with (first | ((with_reducible refine g_bx 25 3 ?_); refine l_bx rfl M.out ?_; clear M; intro g3 w' hg3 M; replace M := Lib.hid M.out.freeze))
  replace M := Lib.hid M.out.drew
  refine tb (fun y => J y ∧ Blk y g3 25 #[.bool p.abs, .slice A m cp]) M.out.now ?_
  refine tkp 0 rfl M.out.now ?_
  refine tkp 1 rfl M.out.now ?_
  refine tkp 2 rfl M.out.now ?_
  refine tkp 3 rfl M.out.now ?_
  refine tk 5 rfl M.out.now (y_ld F_Path _ _ rfl _ _ (fun _ h => h.2) rfl) ?_
  refine tr [4, 6] ?_
  refine r_ld1 O_sPath (i := 4) rfl rfl M.out (by repeat constructor) (by exact rfl) ?_ ?_
  · refine ⟨M.out.now, tn ?_⟩
    refine tr [6] ?_
    refine r_bs SL_sPath (i := 6) rfl (cs := #[.bool p.abs, .slice A m cp]) (by kernel_rfl) M.out ?_ ?_
    · clear M; intro gb w' hgb M; refine ⟨M.out.now, tn ?_⟩
      refine tr [7] ?_
      refine r_apB SL_sPath (i := 7) rfl rfl rfl M.out (by repeat constructor) (by repeat constructor) (by exact rfl) (by exact rfl) (by unfold maxLen; omega) (by omega) ?_ ?_
      · intro vn w' Mn; replace Mn := Mn _ (by repeat constructor); replace M := Lib.hid Mn; clear Mn; obtain ⟨An, cn, hvn, -⟩ := own_reads (M.out.row (vn, _) (by repeat constructor)); simp only at hvn; subst hvn; refine ⟨M.out.now, tn ?_⟩
        refine tkp 8 rfl M.out.now ?_
        refine tkp 9 rfl M.out.now ?_
        refine tr [10] ?_
        refine r_st1 O_sPath (v := .slice An (W.length + 1) cn) (i := 10) rfl rfl rfl rfl M.out (by repeat constructor) ?_ ?_
        · clear M; intro w' M; refine ⟨M.out.now, tn ?_⟩
          refine te ?_
          replace M := Lib.hid (M.out.freeze.imp (J' := J) fun y h => h.1.1)
          go_wp2_with (first | ((with_reducible refine g_ld 103 ?_); refine l_ld1 O_sPath rfl M.out (by repeat constructor) (by exact rfl) ?_))
          go_ret
          exact ⟨by first | rfl | simp | go_num, v1, v2, v3, v4, (.slice An (W.length + 1) cn), by have h := M.out; unfold MkR; simpa [wC] using h⟩
        exact .nil
      exact .nil
    exact .nil
  refine r_bs SL_sPath (i := 6) rfl (cs := #[.bool p.abs, .slice A m cp]) (by kernel_rfl) M.out ?_ ?_
  · clear M; intro gb w' hgb M; refine ⟨M.out.now, tn ?_⟩
    refine tr [4] ?_
    refine r_ld1 O_sPath (i := 4) rfl rfl M.out (by repeat constructor) (by exact rfl) ?_ ?_
    · refine ⟨M.out.now, tn ?_⟩
      refine tr [7] ?_
      refine r_apB SL_sPath (i := 7) rfl rfl rfl M.out (by repeat constructor) (by repeat constructor) (by exact rfl) (by exact rfl) (by unfold maxLen; omega) (by omega) ?_ ?_
      · intro vn w' Mn; replace Mn := Mn _ (by repeat constructor); replace M := Lib.hid Mn; clear Mn; obtain ⟨An, cn, hvn, -⟩ := own_reads (M.out.row (vn, _) (by repeat constructor)); simp only at hvn; subst hvn; refine ⟨M.out.now, tn ?_⟩
        refine tkp 8 rfl M.out.now ?_
        refine tkp 9 rfl M.out.now ?_
        refine tr [10] ?_
        refine r_st1 O_sPath (v := .slice An (W.length + 1) cn) (i := 10) rfl rfl rfl rfl M.out (by repeat constructor) ?_ ?_
        · clear M; intro w' M; refine ⟨M.out.now, tn ?_⟩
          refine te ?_
          replace M := Lib.hid (M.out.freeze.imp (J' := J) fun y h => h.1.1)
          go_wp2_with (first | ((with_reducible refine g_ld 103 ?_); refine l_ld1 O_sPath rfl M.out (by repeat constructor) (by exact rfl) ?_))
          go_ret
          exact ⟨by first | rfl | simp | go_num, v1, v2, v3, v4, (.slice An (W.length + 1) cn), by have h := M.out; unfold MkR; simpa [wC] using h⟩
        exact .nil
      exact .nil
    exact .nil
  exact .nil
theorem MkS.now {w : World} {g : Nat} {c : CodeD} {W : List (PathT × Value)} (h : MkS w0 w g L rs J c W) : J w := by
  obtain ⟨v1, v2, v3, v4, v5, M⟩ := h
  exact M.now
theorem MkS.bel0 {w : World} {g : Nat} {c : CodeD} {W : List (PathT × Value)} (h : MkS w0 w g L rs J c W) : Bel w0.heap.size w0 w := by
  obtain ⟨v1, v2, v3, v4, v5, M⟩ := h
  exact M.bel0
theorem MkS.drew {w : World} {g : Nat} {c : CodeD} {W : List (PathT × Value)} (h : MkS w0 w g L rs J c W) : MkS w0 w.drew g L rs J c W := by
  obtain ⟨v1, v2, v3, v4, v5, M⟩ := h
  exact ⟨v1, v2, v3, v4, v5, M.drew⟩
theorem MkS.imp {J' : World → Prop} {w : World} {g : Nat} {c : CodeD} {W : List (PathT × Value)} (h : MkS w0 w g L rs J c W) (hJ : ∀ y, J y → J' y) : MkS w0 w g L rs J' c W := by
  obtain ⟨v1, v2, v3, v4, v5, M⟩ := h
  exact ⟨v1, v2, v3, v4, v5, M.imp hJ⟩
theorem own_slice {w : World} {base k n : Nat} {e : TypeId} {v : Value} {xs : List Value} (h : w.ownsRow base e k v n xs) (hn : 0 < n) : ∃ gr c, v = .slice (some ⟨gr, 0, none⟩) n c ∧ n ≤ c ∧ c ≤ maxLen := by
  rcases h.2 with ⟨_, h0⟩ | ⟨g, cap, cur, h1, _, _, h4, h5, _⟩
  · omega
  · exact ⟨g, cap, h1, h4, h5⟩
/-- A row behind the maker's is written no more. -/
theorem MkS.freeze {w : World} {g : Nat} {c : CodeD} {W : List (PathT × Value)} {v : Value} {T : TypeId} {k n : Nat} {xs : List Value} (h : MkS w0 w g L ((v, T, k, n, xs) :: rs) J c W) : ∃ A c', v = .slice A n c' ∧ (∀ a, A = some a → ∃ b, a = ⟨b, 0, none⟩) ∧ (n ≤ c' ∧ c' ≤ maxLen) ∧ MkS w0 w g L rs (fun y => J y ∧ Rdd y k A n xs) c W := by
  obtain ⟨v1, v2, v3, v4, v5, M⟩ := h
  have M1 := M.permR (rs' := (v, T, k, n, xs) :: MkR v1 v2 v3 v4 v5 c W rs) (by unfold MkR; exact List.perm_middle (l₁ := [_, _, _, _, _]))
  obtain ⟨A, c', hv, hc, _, M2⟩ := M1.freezeRow
  exact ⟨A, c', hv, row_form (M1.row _ List.mem_cons_self) hv, hc, v1, v2, v3, v4, v5, M2⟩
theorem l_ldb {P : Program} {w : World} {ops : Array Oper} {rest : List Oper} {a : Act} {Q : Exit → Act → World → Prop} {dst : Option Tmp} {tt : TypeId} {pos : String} {af : Array Edge} {T : TypeId} {n : Nat} {z : Array Value} (F : TyF P T n z) {x : Operand} {g : Nat} {T' : TypeId} {cs : Array Value} (hx : a.eval x = .pointer (some ⟨g, 0, none⟩)) (hb : Blk w g T' cs) (hn : cs.size = n)
    (h : wpList P ops Q rest (a.put dst (.agg cs)) w) : wpList P ops Q (⟨dst, .load T x, tt, pos, af, none⟩ :: rest) a w := by
  obtain ⟨d, hu, hd⟩ := F.u
  exact wpList_load_row rfl T x rfl g hx T' cs (0, 0) d hb hu (by cases d <;> first | rfl | cases hd) (by rw [hn]; exact F.s) h
end

end Go.Proofs.YtpcbcodmocmilaaDoor
