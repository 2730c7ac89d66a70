/- ref19: facts on types; put, meet (printed by gen_cf.py). -/
import Derived.Test.YtpcbcodmocmilaaOz
import Derived.Test.YtpcbcodmocmilaaYk
import Derived.Test.YtpcbcodmocmilaaVp
namespace Go.Proofs.Ytpcbcodmocmilaa
open Go.RowKit

theorem F_M : TyF Try.prog 70 5 #[.slice none 0 0, .slice none 0 0, .slice none 0 0, .slice none 0 0, .slice none 0 0] := ⟨⟨_, Try.underlying70, rfl⟩, by kernel_rfl, by kernel_rfl⟩
theorem F_Ins : TyF Try.prog 36 7 #[.int .i64 0, .int .i64 0, .int .i64 0, .int .i64 0, .int .i64 0, .string ⟨#[]⟩, .int .i64 0] := ⟨⟨_, Try.underlying36, rfl⟩, by kernel_rfl, by kernel_rfl⟩
theorem F_Path : TyF Try.prog 49 2 #[.bool false, .slice none 0 0] := ⟨⟨_, Try.underlying49, rfl⟩, by kernel_rfl, by kernel_rfl⟩
theorem F_Ex : TyF Try.prog 98 17 #[.int .i64 0, .slice none 0 0, .bool false, .slice none 0 0, .int .i64 0, .bool false, .int .i64 0, .int .i64 0, .string ⟨#[]⟩, .bool false, .slice none 0 0, .bool false, .int .i64 0, .int .i64 0, .string ⟨#[]⟩, .bool false, .slice none 0 0] := ⟨⟨_, Try.underlying98, rfl⟩, by kernel_rfl, by kernel_rfl⟩
theorem F_Code : TyF Try.prog 29 4 #[.slice none 0 0, .slice none 0 0, .slice none 0 0, .slice none 0 0] := ⟨⟨_, Try.underlying29, rfl⟩, by kernel_rfl, by kernel_rfl⟩
theorem F_CPath : TyF Try.prog 40 3 #[.bool false, .int .i64 0, .int .i64 0] := ⟨⟨_, Try.underlying40, rfl⟩, by kernel_rfl, by kernel_rfl⟩
theorem F_CSeg : TyF Try.prog 42 3 #[.bool false, .int .i64 0, .int .i64 0] := ⟨⟨_, Try.underlying42, rfl⟩, by kernel_rfl, by kernel_rfl⟩
theorem F_CSel : TyF Try.prog 44 8 #[.int .i64 0, .string ⟨#[]⟩, .int .i64 0, .int .i64 0, .int .i64 0, .bool false, .bool false, .int .i64 0] := ⟨⟨_, Try.underlying44, rfl⟩, by kernel_rfl, by kernel_rfl⟩
theorem F_Seg : TyF Try.prog 87 2 #[.bool false, .slice none 0 0] := ⟨⟨_, Try.underlying87, rfl⟩, by kernel_rfl, by kernel_rfl⟩
theorem O_int : OneF Try.prog 3 := ⟨⟨_, Try.underlying3, rfl⟩, by kernel_rfl⟩
theorem O_i64 : OneF Try.prog 2 := ⟨⟨_, Try.underlying2, rfl⟩, by kernel_rfl⟩
theorem O_bool : OneF Try.prog 4 := ⟨⟨_, Try.underlying4, rfl⟩, by kernel_rfl⟩
theorem O_str : OneF Try.prog 9 := ⟨⟨_, Try.underlying9, rfl⟩, by kernel_rfl⟩
theorem O_pex : OneF Try.prog 90 := ⟨⟨_, Try.underlying90, rfl⟩, by kernel_rfl⟩
theorem O_sIns : OneF Try.prog 27 := ⟨⟨_, Try.underlying27, rfl⟩, by kernel_rfl⟩
theorem SL_sIns : SlF Try.prog 27 36 7 64 (.agg #[.int .i64 0, .int .i64 0, .int .i64 0, .int .i64 0, .int .i64 0, .string ⟨#[]⟩, .int .i64 0]) := ⟨Try.underlying27, by kernel_rfl, rfl, by decide⟩
theorem lit0_sIns (w : World) : (Instr.buildSlice 27 0 #[]).run Try.prog w = .ok (.slice (some ⟨w.heap.size, 0, none⟩) 0 0) (w.alloc (.cells #[] 36)) := by kernel_rfl
theorem O_sPath : OneF Try.prog 68 := ⟨⟨_, Try.underlying68, rfl⟩, by kernel_rfl⟩
theorem SL_sPath : SlF Try.prog 68 49 2 32 (.agg #[.bool false, .slice none 0 0]) := ⟨Try.underlying68, by kernel_rfl, rfl, by decide⟩
theorem lit0_sPath (w : World) : (Instr.buildSlice 68 0 #[]).run Try.prog w = .ok (.slice (some ⟨w.heap.size, 0, none⟩) 0 0) (w.alloc (.cells #[] 49)) := by kernel_rfl
theorem O_sEx : OneF Try.prog 94 := ⟨⟨_, Try.underlying94, rfl⟩, by kernel_rfl⟩
theorem O_sSeg : OneF Try.prog 47 := ⟨⟨_, Try.underlying47, rfl⟩, by kernel_rfl⟩
theorem O_sSel : OneF Try.prog 85 := ⟨⟨_, Try.underlying85, rfl⟩, by kernel_rfl⟩
theorem SL_sSel : SlF Try.prog 85 92 9 72 (.agg #[.int .i64 0, .string ⟨#[]⟩, .int .i64 0, .int .i64 0, .int .i64 0, .int .i64 0, .bool false, .bool false, .pointer none]) := ⟨Try.underlying85, by kernel_rfl, rfl, by decide⟩
theorem O_sCPath : OneF Try.prog 24 := ⟨⟨_, Try.underlying24, rfl⟩, by kernel_rfl⟩
theorem SL_sCPath : SlF Try.prog 24 40 3 24 (.agg #[.bool false, .int .i64 0, .int .i64 0]) := ⟨Try.underlying24, by kernel_rfl, rfl, by decide⟩
theorem lit0_sCPath (w : World) : (Instr.buildSlice 24 0 #[]).run Try.prog w = .ok (.slice (some ⟨w.heap.size, 0, none⟩) 0 0) (w.alloc (.cells #[] 40)) := by kernel_rfl
theorem O_sCSeg : OneF Try.prog 25 := ⟨⟨_, Try.underlying25, rfl⟩, by kernel_rfl⟩
theorem SL_sCSeg : SlF Try.prog 25 42 3 24 (.agg #[.bool false, .int .i64 0, .int .i64 0]) := ⟨Try.underlying25, by kernel_rfl, rfl, by decide⟩
theorem lit0_sCSeg (w : World) : (Instr.buildSlice 25 0 #[]).run Try.prog w = .ok (.slice (some ⟨w.heap.size, 0, none⟩) 0 0) (w.alloc (.cells #[] 42)) := by kernel_rfl
theorem O_sCSel : OneF Try.prog 26 := ⟨⟨_, Try.underlying26, rfl⟩, by kernel_rfl⟩
theorem SL_sCSel : SlF Try.prog 26 44 8 64 (.agg #[.int .i64 0, .string ⟨#[]⟩, .int .i64 0, .int .i64 0, .int .i64 0, .bool false, .bool false, .int .i64 0]) := ⟨Try.underlying26, by kernel_rfl, rfl, by decide⟩
theorem lit0_sCSel (w : World) : (Instr.buildSlice 26 0 #[]).run Try.prog w = .ok (.slice (some ⟨w.heap.size, 0, none⟩) 0 0) (w.alloc (.cells #[] 44)) := by kernel_rfl
theorem SL_sint : SlF Try.prog 75 3 1 8 (.int .i64 0) := ⟨Try.underlying75, by kernel_rfl, rfl, by decide⟩
/-- Cells that a slice reads as, wherever they lie. -/
def Rdd (w : World) (k : Nat) (A : Option Addr) (m : Nat) (xs : List Value) : Prop := Reads w w.heap.size k A m xs
theorem Rdd.kept {ex : List Nat} {w y : World} {k m : Nat} {A : Option Addr} {xs : List Value} (h : Rdd w k A m xs) (hy : Kept ex w y) (hx : ∀ a, A = some a → 0 < m → a.block ∉ ex) : Rdd y k A m xs :=
  ⟨h.1, fun h0 => by
    obtain ⟨ad, e, hlt, hc⟩ := h.2 h0
    refine ⟨ad, e, Nat.lt_of_lt_of_le hlt hy.1, fun j u hu => ?_⟩
    have h1 : (ad.add j).block = ad.block := by unfold Addr.add; split <;> rfl
    rw [World.cell?_of_block (w := w) (w' := y) (by rw [h1]; exact hy.2 _ hlt (hx ad e h0))]; exact hc j u hu⟩
theorem Rdd.bel {w w' : World} {k m : Nat} {A : Option Addr} {xs : List Value} (h : Rdd w k A m xs) (hb : Bel w.heap.size w w') : Rdd w' k A m xs :=
  h.kept (ex := []) ⟨hb.size, fun b hl _ => hb.block b hl⟩ fun _ _ _ => List.not_mem_nil
theorem Rdd.old {w y : World} {k m : Nat} {A : Option Addr} {xs : List Value} (h : Rdd w k A m xs) (hy : Kept [] w y) : Rdd y k A m xs := h.kept hy fun _ _ _ => List.not_mem_nil
/-- No block from before. -/
def FrA (w : World) (A : Option Addr) : Prop := ∀ a, A = some a → w.heap.size ≤ a.block ∧ a.spot = none
theorem FrA.le {w w' : World} {A : Option Addr} (h : FrA w' A) (hs : w.heap.size ≤ w'.heap.size) : FrA w A := fun a e => ⟨Nat.le_trans hs (h a e).1, (h a e).2⟩
theorem own_reads {w : World} {base k n : Nat} {e : TypeId} {v : Value} {xs : List Value} (h : w.ownsRow base e k v n xs) : ∃ A c, v = .slice A n c ∧ (n ≤ c ∧ c ≤ maxLen) ∧ (∀ a, A = some a → base ≤ a.block ∧ a.spot = none) ∧ Rdd w k A n xs := by
  rcases h.2 with ⟨rfl, h0⟩ | ⟨g, cap, cur, rfl, hb, hg, hle, hm, _⟩
  · subst h0
    exact ⟨none, 0, rfl, ⟨Nat.le_refl _, by unfold maxLen; omega⟩, fun a e => (by cases e), ⟨h.1, fun h => absurd h (by omega)⟩⟩
  · refine ⟨_, cap, rfl, ⟨hle, hm⟩, fun a e => (by cases e; exact ⟨hb, rfl⟩), h.1, fun _ => ⟨_, rfl, (Array.getElem?_eq_some_iff.1 hg).1, fun j u hu => ?_⟩⟩
    have := h.cells (g := g) rfl j u hu
    rw [add_lit]; rw [add_lit] at this; simpa using this
/-- What a callee has made anew is kept. -/
theorem Own.addRd {X : List Nat} {w0 w w' : World} {L : List BlkE} {rs : List RowE} {J : World → Prop} {k n : Nat} {A : Option Addr} {xs : List Value} (M : Own X w0 w L rs J) (hb : Bel w.heap.size w w') (h : Rdd w' k A n xs) (hf : FrA w A) : Own X w0 w' L rs (fun y => J y ∧ Rdd y k A n xs) :=
  (M.bel hb).add fun _ hy => h.kept hy fun a e _ hm => Nat.lt_irrefl _ (Nat.lt_of_lt_of_le (M.ex_lt hm) (hf a e).1)
def insC (x : InsD) : List Value := [.int .i64 x.op, .int .i64 x.p, .int .i64 x.sign, .int .i64 x.kind, .int .i64 x.n, .string x.s, .int .i64 x.tt]
theorem ins_one1 (l : List InsD) : ∀ u ∈ l.flatMap insC, u.oneCell' = true := by
  intro u hu
  obtain ⟨x, _, hx⟩ := List.mem_flatMap.1 hu
  exact allOne_mem (cs := insC x) rfl u hx
section
variable (B1 B2 B3 A4 A5 : Option Addr) (m1 d1 m2 d2 m3 d3 c4 n5 c5 : Nat) (w : World)

set_option maxRecDepth 100000 in
set_option maxHeartbeats 2000000 in
theorem rput_any (n4 : Nat) (xs : List Value) (x : InsD) (hl : n4 ≤ 1000000) (h1 : ∀ u ∈ xs, u.oneCell' = true) (h : Rdd w 7 A4 n4 xs) : Calls Try.prog 34 #[.agg #[.slice B1 m1 d1, .slice B2 m2 d2, .slice B3 m3 d3, .slice A4 n4 c4, .slice A5 n5 c5], .agg #[.int .i64 x.op, .int .i64 x.p, .int .i64 x.sign, .int .i64 x.kind, .int .i64 x.n, .string x.s, .int .i64 x.tt]] w fun e w' => ∃ A' c', e = .returned (.agg #[.slice B1 m1 d1, .slice B2 m2 d2, .slice B3 m3 d3, .slice A' (n4 + 1) c', .slice A5 n5 c5]) ∧ Rdd w' 7 A' (n4 + 1) (xs ++ insC x) ∧ FrA w A' ∧ Bel w.heap.size w w' := by
  have M := Lib.hid (Own.start [] w (fun y => Rdd y 7 A4 n4 xs) fun y hy => h.old hy)
  clear h
  go_enter Try.func34, Try.ntmps34
  generalize hQ : bodyPost Try.prog Try.f34 (fun e w' => ∃ A' c', e = .returned (.agg #[.slice B1 m1 d1, .slice B2 m2 d2, .slice B3 m3 d3, .slice A' (n4 + 1) c', .slice A5 n5 c5]) ∧ Rdd w' 7 A' (n4 + 1) (xs ++ insC x) ∧ FrA w A' ∧ Bel w.heap.size w w') = Q
  have HQ := Lib.hid hQ; clear hQ
  go_upto_region 1 with (first | ((with_reducible refine g_bx 70 2 ?_); refine l_bx rfl M.out ?_; clear M; intro g2 w' hg2 M) | ((with_reducible refine g_bx 36 3 ?_); refine l_bx rfl M.out ?_; clear M; intro g3 w' hg3 M; replace M := Lib.hid M.out.freeze) | ((with_reducible refine g_al 70 4 ?_); refine l_al F_M M.out ?_; clear M; intro g4 w' hg4 M))
  replace M := Lib.hid M.out.drew
  refine tb (fun y => Rdd y 7 A4 n4 xs ∧ Blk y g3 36 #[.int .i64 x.op, .int .i64 x.p, .int .i64 x.sign, .int .i64 x.kind, .int .i64 x.n, .string x.s, .int .i64 x.tt]) M.out.now ?_
  refine tkp 1 rfl M.out.now ?_
  refine tkp 2 rfl M.out.now ?_
  refine tk 5 rfl M.out.now (y_ld F_Ins _ _ rfl _ _ (fun _ h => h.2) rfl) ?_
  refine tr [0, 3, 6] ?_
  refine r_bs0 SL_sIns lit0_sIns (i := 0) rfl M.out ?_ ?_
  · clear M; intro g5 w' hg5 M; refine ⟨M.out.now, tn ?_⟩
    refine tr [3, 6] ?_
    refine r_ld1 O_sIns (i := 3) rfl rfl M.out (by repeat constructor) (by exact rfl) ?_ ?_
    · refine ⟨M.out.now, tn ?_⟩
      refine tr [4, 6] ?_
      refine r_apR SL_sIns (i := 4) rfl rfl rfl M.out (by repeat constructor) (M.out.now.1) (h1) (by unfold maxLen; omega) (by omega) ?_ ?_
      · intro v1 w' Mn; have Mn := Mn _ (by repeat constructor); simp only [Nat.zero_add, List.nil_append] at Mn; replace M := Lib.hid Mn; clear Mn; refine ⟨M.out.now, tn ?_⟩
        refine tr [6] ?_
        refine r_bs SL_sIns (i := 6) rfl (cs := #[.int .i64 x.op, .int .i64 x.p, .int .i64 x.sign, .int .i64 x.kind, .int .i64 x.n, .string x.s, .int .i64 x.tt]) (by kernel_rfl) M.out ?_ ?_
        · clear M; intro g11 w' hg11 M; refine ⟨M.out.now, tn ?_⟩
          refine tr [7] ?_
          refine r_apB SL_sIns (i := 7) rfl rfl rfl M.out (by repeat constructor) (by repeat constructor) (by exact rfl) (by exact rfl) (by unfold maxLen; omega) (by omega) ?_ ?_
          · intro v2 w' Mn; have Mn := Mn _ (by repeat constructor); replace M := Lib.hid Mn; clear Mn; obtain ⟨Af, cf, hv, -⟩ := own_reads (M.out.row _ List.mem_cons_self); simp only at hv; subst hv; refine ⟨M.out.now, tn ?_⟩
            refine tkp 8 rfl M.out.now ?_
            refine tkp 9 rfl M.out.now ?_
            refine tr [10] ?_
            refine r_st1 O_sIns (i := 10) rfl rfl rfl (by exact rfl) M.out (by repeat constructor) ?_ ?_
            · clear M; intro w' M; refine ⟨M.out.now, tn ?_⟩
              refine te ?_
              go_wp2_with (first | ((with_reducible refine g_ld 70 ?_); refine l_ld F_M rfl M.out (by repeat constructor) (by exact rfl) ?_) | ((with_reducible refine g_st 70 ?_); refine l_st F_M rfl rfl M.out (by repeat constructor) (by exact rfl) (by exact rfl) (by exact rfl) ?_; clear M; intro w' M))
              obtain ⟨Af2, cf2, hv, -, hfr, hrd⟩ := own_reads (M.out.row _ List.mem_cons_self)
              cases hv
              rw [← HQ.out]
              exact bodyPost_ret (results_1 Try.results34 _ _ g4 _ _ rfl (M.out.blk (g4, _, _) (by repeat constructor)) F_M rfl) rfl ⟨_, _, rfl, hrd, hfr, M.out.bel0⟩
            exact .nil
          exact .nil
        exact .nil
      refine r_bs SL_sIns (i := 6) rfl (cs := #[.int .i64 x.op, .int .i64 x.p, .int .i64 x.sign, .int .i64 x.kind, .int .i64 x.n, .string x.s, .int .i64 x.tt]) (by kernel_rfl) M.out ?_ ?_
      · clear M; intro g11 w' hg11 M; refine ⟨M.out.now, tn ?_⟩
        refine tr [4] ?_
        refine r_apR SL_sIns (i := 4) rfl rfl rfl M.out (by repeat constructor) (M.out.now.1) (h1) (by unfold maxLen; omega) (by omega) ?_ ?_
        · intro v1 w' Mn; have Mn := Mn _ (by repeat constructor); simp only [Nat.zero_add, List.nil_append] at Mn; replace M := Lib.hid Mn; clear Mn; refine ⟨M.out.now, tn ?_⟩
          refine tr [7] ?_
          refine r_apB SL_sIns (i := 7) rfl rfl rfl M.out (by repeat constructor) (by repeat constructor) (by exact rfl) (by exact rfl) (by unfold maxLen; omega) (by omega) ?_ ?_
          · intro v2 w' Mn; have Mn := Mn _ (by repeat constructor); replace M := Lib.hid Mn; clear Mn; obtain ⟨Af, cf, hv, -⟩ := own_reads (M.out.row _ List.mem_cons_self); simp only at hv; subst hv; refine ⟨M.out.now, tn ?_⟩
            refine tkp 8 rfl M.out.now ?_
            refine tkp 9 rfl M.out.now ?_
            refine tr [10] ?_
            refine r_st1 O_sIns (i := 10) rfl rfl rfl (by exact rfl) M.out (by repeat constructor) ?_ ?_
            · clear M; intro w' M; refine ⟨M.out.now, tn ?_⟩
              refine te ?_
              go_wp2_with (first | ((with_reducible refine g_ld 70 ?_); refine l_ld F_M rfl M.out (by repeat constructor) (by exact rfl) ?_) | ((with_reducible refine g_st 70 ?_); refine l_st F_M rfl rfl M.out (by repeat constructor) (by exact rfl) (by exact rfl) (by exact rfl) ?_; clear M; intro w' M))
              obtain ⟨Af2, cf2, hv, -, hfr, hrd⟩ := own_reads (M.out.row _ List.mem_cons_self)
              cases hv
              rw [← HQ.out]
              exact bodyPost_ret (results_1 Try.results34 _ _ g4 _ _ rfl (M.out.blk (g4, _, _) (by repeat constructor)) F_M rfl) rfl ⟨_, _, rfl, hrd, hfr, M.out.bel0⟩
            exact .nil
          exact .nil
        exact .nil
      exact .nil
    refine r_bs SL_sIns (i := 6) rfl (cs := #[.int .i64 x.op, .int .i64 x.p, .int .i64 x.sign, .int .i64 x.kind, .int .i64 x.n, .string x.s, .int .i64 x.tt]) (by kernel_rfl) M.out ?_ ?_
    · clear M; intro g11 w' hg11 M; refine ⟨M.out.now, tn ?_⟩
      refine tr [3] ?_
      refine r_ld1 O_sIns (i := 3) rfl rfl M.out (by repeat constructor) (by exact rfl) ?_ ?_
      · refine ⟨M.out.now, tn ?_⟩
        refine tr [4] ?_
        refine r_apR SL_sIns (i := 4) rfl rfl rfl M.out (by repeat constructor) (M.out.now.1) (h1) (by unfold maxLen; omega) (by omega) ?_ ?_
        · intro v1 w' Mn; have Mn := Mn _ (by repeat constructor); simp only [Nat.zero_add, List.nil_append] at Mn; replace M := Lib.hid Mn; clear Mn; refine ⟨M.out.now, tn ?_⟩
          refine tr [7] ?_
          refine r_apB SL_sIns (i := 7) rfl rfl rfl M.out (by repeat constructor) (by repeat constructor) (by exact rfl) (by exact rfl) (by unfold maxLen; omega) (by omega) ?_ ?_
          · intro v2 w' Mn; have Mn := Mn _ (by repeat constructor); replace M := Lib.hid Mn; clear Mn; obtain ⟨Af, cf, hv, -⟩ := own_reads (M.out.row _ List.mem_cons_self); simp only at hv; subst hv; refine ⟨M.out.now, tn ?_⟩
            refine tkp 8 rfl M.out.now ?_
            refine tkp 9 rfl M.out.now ?_
            refine tr [10] ?_
            refine r_st1 O_sIns (i := 10) rfl rfl rfl (by exact rfl) M.out (by repeat constructor) ?_ ?_
            · clear M; intro w' M; refine ⟨M.out.now, tn ?_⟩
              refine te ?_
              go_wp2_with (first | ((with_reducible refine g_ld 70 ?_); refine l_ld F_M rfl M.out (by repeat constructor) (by exact rfl) ?_) | ((with_reducible refine g_st 70 ?_); refine l_st F_M rfl rfl M.out (by repeat constructor) (by exact rfl) (by exact rfl) (by exact rfl) ?_; clear M; intro w' M))
              obtain ⟨Af2, cf2, hv, -, hfr, hrd⟩ := own_reads (M.out.row _ List.mem_cons_self)
              cases hv
              rw [← HQ.out]
              exact bodyPost_ret (results_1 Try.results34 _ _ g4 _ _ rfl (M.out.blk (g4, _, _) (by repeat constructor)) F_M rfl) rfl ⟨_, _, rfl, hrd, hfr, M.out.bel0⟩
            exact .nil
          exact .nil
        exact .nil
      exact .nil
    exact .nil
  refine r_ld1 O_sIns (i := 3) rfl rfl M.out (by repeat constructor) (by exact rfl) ?_ ?_
  · refine ⟨M.out.now, tn ?_⟩
    refine tr [0, 6] ?_
    refine r_bs0 SL_sIns lit0_sIns (i := 0) rfl M.out ?_ ?_
    · clear M; intro g5 w' hg5 M; refine ⟨M.out.now, tn ?_⟩
      refine tr [4, 6] ?_
      refine r_apR SL_sIns (i := 4) rfl rfl rfl M.out (by repeat constructor) (M.out.now.1) (h1) (by unfold maxLen; omega) (by omega) ?_ ?_
      · intro v1 w' Mn; have Mn := Mn _ (by repeat constructor); simp only [Nat.zero_add, List.nil_append] at Mn; replace M := Lib.hid Mn; clear Mn; refine ⟨M.out.now, tn ?_⟩
        refine tr [6] ?_
        refine r_bs SL_sIns (i := 6) rfl (cs := #[.int .i64 x.op, .int .i64 x.p, .int .i64 x.sign, .int .i64 x.kind, .int .i64 x.n, .string x.s, .int .i64 x.tt]) (by kernel_rfl) M.out ?_ ?_
        · clear M; intro g11 w' hg11 M; refine ⟨M.out.now, tn ?_⟩
          refine tr [7] ?_
          refine r_apB SL_sIns (i := 7) rfl rfl rfl M.out (by repeat constructor) (by repeat constructor) (by exact rfl) (by exact rfl) (by unfold maxLen; omega) (by omega) ?_ ?_
          · intro v2 w' Mn; have Mn := Mn _ (by repeat constructor); replace M := Lib.hid Mn; clear Mn; obtain ⟨Af, cf, hv, -⟩ := own_reads (M.out.row _ List.mem_cons_self); simp only at hv; subst hv; refine ⟨M.out.now, tn ?_⟩
            refine tkp 8 rfl M.out.now ?_
            refine tkp 9 rfl M.out.now ?_
            refine tr [10] ?_
            refine r_st1 O_sIns (i := 10) rfl rfl rfl (by exact rfl) M.out (by repeat constructor) ?_ ?_
            · clear M; intro w' M; refine ⟨M.out.now, tn ?_⟩
              refine te ?_
              go_wp2_with (first | ((with_reducible refine g_ld 70 ?_); refine l_ld F_M rfl M.out (by repeat constructor) (by exact rfl) ?_) | ((with_reducible refine g_st 70 ?_); refine l_st F_M rfl rfl M.out (by repeat constructor) (by exact rfl) (by exact rfl) (by exact rfl) ?_; clear M; intro w' M))
              obtain ⟨Af2, cf2, hv, -, hfr, hrd⟩ := own_reads (M.out.row _ List.mem_cons_self)
              cases hv
              rw [← HQ.out]
              exact bodyPost_ret (results_1 Try.results34 _ _ g4 _ _ rfl (M.out.blk (g4, _, _) (by repeat constructor)) F_M rfl) rfl ⟨_, _, rfl, hrd, hfr, M.out.bel0⟩
            exact .nil
          exact .nil
        exact .nil
      refine r_bs SL_sIns (i := 6) rfl (cs := #[.int .i64 x.op, .int .i64 x.p, .int .i64 x.sign, .int .i64 x.kind, .int .i64 x.n, .string x.s, .int .i64 x.tt]) (by kernel_rfl) M.out ?_ ?_
      · clear M; intro g11 w' hg11 M; refine ⟨M.out.now, tn ?_⟩
        refine tr [4] ?_
        refine r_apR SL_sIns (i := 4) rfl rfl rfl M.out (by repeat constructor) (M.out.now.1) (h1) (by unfold maxLen; omega) (by omega) ?_ ?_
        · intro v1 w' Mn; have Mn := Mn _ (by repeat constructor); simp only [Nat.zero_add, List.nil_append] at Mn; replace M := Lib.hid Mn; clear Mn; refine ⟨M.out.now, tn ?_⟩
          refine tr [7] ?_
          refine r_apB SL_sIns (i := 7) rfl rfl rfl M.out (by repeat constructor) (by repeat constructor) (by exact rfl) (by exact rfl) (by unfold maxLen; omega) (by omega) ?_ ?_
          · intro v2 w' Mn; have Mn := Mn _ (by repeat constructor); replace M := Lib.hid Mn; clear Mn; obtain ⟨Af, cf, hv, -⟩ := own_reads (M.out.row _ List.mem_cons_self); simp only at hv; subst hv; refine ⟨M.out.now, tn ?_⟩
            refine tkp 8 rfl M.out.now ?_
            refine tkp 9 rfl M.out.now ?_
            refine tr [10] ?_
            refine r_st1 O_sIns (i := 10) rfl rfl rfl (by exact rfl) M.out (by repeat constructor) ?_ ?_
            · clear M; intro w' M; refine ⟨M.out.now, tn ?_⟩
              refine te ?_
              go_wp2_with (first | ((with_reducible refine g_ld 70 ?_); refine l_ld F_M rfl M.out (by repeat constructor) (by exact rfl) ?_) | ((with_reducible refine g_st 70 ?_); refine l_st F_M rfl rfl M.out (by repeat constructor) (by exact rfl) (by exact rfl) (by exact rfl) ?_; clear M; intro w' M))
              obtain ⟨Af2, cf2, hv, -, hfr, hrd⟩ := own_reads (M.out.row _ List.mem_cons_self)
              cases hv
              rw [← HQ.out]
              exact bodyPost_ret (results_1 Try.results34 _ _ g4 _ _ rfl (M.out.blk (g4, _, _) (by repeat constructor)) F_M rfl) rfl ⟨_, _, rfl, hrd, hfr, M.out.bel0⟩
            exact .nil
          exact .nil
        exact .nil
      exact .nil
    refine r_bs SL_sIns (i := 6) rfl (cs := #[.int .i64 x.op, .int .i64 x.p, .int .i64 x.sign, .int .i64 x.kind, .int .i64 x.n, .string x.s, .int .i64 x.tt]) (by kernel_rfl) M.out ?_ ?_
    · clear M; intro g11 w' hg11 M; refine ⟨M.out.now, tn ?_⟩
      refine tr [0] ?_
      refine r_bs0 SL_sIns lit0_sIns (i := 0) rfl M.out ?_ ?_
      · clear M; intro g5 w' hg5 M; refine ⟨M.out.now, tn ?_⟩
        refine tr [4] ?_
        refine r_apR SL_sIns (i := 4) rfl rfl rfl M.out (by repeat constructor) (M.out.now.1) (h1) (by unfold maxLen; omega) (by omega) ?_ ?_
        · intro v1 w' Mn; have Mn := Mn _ (by repeat constructor); simp only [Nat.zero_add, List.nil_append] at Mn; replace M := Lib.hid Mn; clear Mn; refine ⟨M.out.now, tn ?_⟩
          refine tr [7] ?_
          refine r_apB SL_sIns (i := 7) rfl rfl rfl M.out (by repeat constructor) (by repeat constructor) (by exact rfl) (by exact rfl) (by unfold maxLen; omega) (by omega) ?_ ?_
          · intro v2 w' Mn; have Mn := Mn _ (by repeat constructor); replace M := Lib.hid Mn; clear Mn; obtain ⟨Af, cf, hv, -⟩ := own_reads (M.out.row _ List.mem_cons_self); simp only at hv; subst hv; refine ⟨M.out.now, tn ?_⟩
            refine tkp 8 rfl M.out.now ?_
            refine tkp 9 rfl M.out.now ?_
            refine tr [10] ?_
            refine r_st1 O_sIns (i := 10) rfl rfl rfl (by exact rfl) M.out (by repeat constructor) ?_ ?_
            · clear M; intro w' M; refine ⟨M.out.now, tn ?_⟩
              refine te ?_
              go_wp2_with (first | ((with_reducible refine g_ld 70 ?_); refine l_ld F_M rfl M.out (by repeat constructor) (by exact rfl) ?_) | ((with_reducible refine g_st 70 ?_); refine l_st F_M rfl rfl M.out (by repeat constructor) (by exact rfl) (by exact rfl) (by exact rfl) ?_; clear M; intro w' M))
              obtain ⟨Af2, cf2, hv, -, hfr, hrd⟩ := own_reads (M.out.row _ List.mem_cons_self)
              cases hv
              rw [← HQ.out]
              exact bodyPost_ret (results_1 Try.results34 _ _ g4 _ _ rfl (M.out.blk (g4, _, _) (by repeat constructor)) F_M rfl) rfl ⟨_, _, rfl, hrd, hfr, M.out.bel0⟩
            exact .nil
          exact .nil
        exact .nil
      exact .nil
    exact .nil
  refine r_bs SL_sIns (i := 6) rfl (cs := #[.int .i64 x.op, .int .i64 x.p, .int .i64 x.sign, .int .i64 x.kind, .int .i64 x.n, .string x.s, .int .i64 x.tt]) (by kernel_rfl) M.out ?_ ?_
  · clear M; intro g11 w' hg11 M; refine ⟨M.out.now, tn ?_⟩
    refine tr [0, 3] ?_
    refine r_bs0 SL_sIns lit0_sIns (i := 0) rfl M.out ?_ ?_
    · clear M; intro g5 w' hg5 M; refine ⟨M.out.now, tn ?_⟩
      refine tr [3] ?_
      refine r_ld1 O_sIns (i := 3) rfl rfl M.out (by repeat constructor) (by exact rfl) ?_ ?_
      · refine ⟨M.out.now, tn ?_⟩
        refine tr [4] ?_
        refine r_apR SL_sIns (i := 4) rfl rfl rfl M.out (by repeat constructor) (M.out.now.1) (h1) (by unfold maxLen; omega) (by omega) ?_ ?_
        · intro v1 w' Mn; have Mn := Mn _ (by repeat constructor); simp only [Nat.zero_add, List.nil_append] at Mn; replace M := Lib.hid Mn; clear Mn; refine ⟨M.out.now, tn ?_⟩
          refine tr [7] ?_
          refine r_apB SL_sIns (i := 7) rfl rfl rfl M.out (by repeat constructor) (by repeat constructor) (by exact rfl) (by exact rfl) (by unfold maxLen; omega) (by omega) ?_ ?_
          · intro v2 w' Mn; have Mn := Mn _ (by repeat constructor); replace M := Lib.hid Mn; clear Mn; obtain ⟨Af, cf, hv, -⟩ := own_reads (M.out.row _ List.mem_cons_self); simp only at hv; subst hv; refine ⟨M.out.now, tn ?_⟩
            refine tkp 8 rfl M.out.now ?_
            refine tkp 9 rfl M.out.now ?_
            refine tr [10] ?_
            refine r_st1 O_sIns (i := 10) rfl rfl rfl (by exact rfl) M.out (by repeat constructor) ?_ ?_
            · clear M; intro w' M; refine ⟨M.out.now, tn ?_⟩
              refine te ?_
              go_wp2_with (first | ((with_reducible refine g_ld 70 ?_); refine l_ld F_M rfl M.out (by repeat constructor) (by exact rfl) ?_) | ((with_reducible refine g_st 70 ?_); refine l_st F_M rfl rfl M.out (by repeat constructor) (by exact rfl) (by exact rfl) (by exact rfl) ?_; clear M; intro w' M))
              obtain ⟨Af2, cf2, hv, -, hfr, hrd⟩ := own_reads (M.out.row _ List.mem_cons_self)
              cases hv
              rw [← HQ.out]
              exact bodyPost_ret (results_1 Try.results34 _ _ g4 _ _ rfl (M.out.blk (g4, _, _) (by repeat constructor)) F_M rfl) rfl ⟨_, _, rfl, hrd, hfr, M.out.bel0⟩
            exact .nil
          exact .nil
        exact .nil
      exact .nil
    refine r_ld1 O_sIns (i := 3) rfl rfl M.out (by repeat constructor) (by exact rfl) ?_ ?_
    · refine ⟨M.out.now, tn ?_⟩
      refine tr [0] ?_
      refine r_bs0 SL_sIns lit0_sIns (i := 0) rfl M.out ?_ ?_
      · clear M; intro g5 w' hg5 M; refine ⟨M.out.now, tn ?_⟩
        refine tr [4] ?_
        refine r_apR SL_sIns (i := 4) rfl rfl rfl M.out (by repeat constructor) (M.out.now.1) (h1) (by unfold maxLen; omega) (by omega) ?_ ?_
        · intro v1 w' Mn; have Mn := Mn _ (by repeat constructor); simp only [Nat.zero_add, List.nil_append] at Mn; replace M := Lib.hid Mn; clear Mn; refine ⟨M.out.now, tn ?_⟩
          refine tr [7] ?_
          refine r_apB SL_sIns (i := 7) rfl rfl rfl M.out (by repeat constructor) (by repeat constructor) (by exact rfl) (by exact rfl) (by unfold maxLen; omega) (by omega) ?_ ?_
          · intro v2 w' Mn; have Mn := Mn _ (by repeat constructor); replace M := Lib.hid Mn; clear Mn; obtain ⟨Af, cf, hv, -⟩ := own_reads (M.out.row _ List.mem_cons_self); simp only at hv; subst hv; refine ⟨M.out.now, tn ?_⟩
            refine tkp 8 rfl M.out.now ?_
            refine tkp 9 rfl M.out.now ?_
            refine tr [10] ?_
            refine r_st1 O_sIns (i := 10) rfl rfl rfl (by exact rfl) M.out (by repeat constructor) ?_ ?_
            · clear M; intro w' M; refine ⟨M.out.now, tn ?_⟩
              refine te ?_
              go_wp2_with (first | ((with_reducible refine g_ld 70 ?_); refine l_ld F_M rfl M.out (by repeat constructor) (by exact rfl) ?_) | ((with_reducible refine g_st 70 ?_); refine l_st F_M rfl rfl M.out (by repeat constructor) (by exact rfl) (by exact rfl) (by exact rfl) ?_; clear M; intro w' M))
              obtain ⟨Af2, cf2, hv, -, hfr, hrd⟩ := own_reads (M.out.row _ List.mem_cons_self)
              cases hv
              rw [← HQ.out]
              exact bodyPost_ret (results_1 Try.results34 _ _ g4 _ _ rfl (M.out.blk (g4, _, _) (by repeat constructor)) F_M rfl) rfl ⟨_, _, rfl, hrd, hfr, M.out.bel0⟩
            exact .nil
          exact .nil
        exact .nil
      exact .nil
    exact .nil
  exact .nil

set_option maxRecDepth 100000 in
set_option maxHeartbeats 2000000 in
theorem rmeet_any (n4 : Nat) (wc : List Value) (b : Bool) (A : Option Addr) (n c : Nat) (hl : n5 ≤ 1000000) (h1 : ∀ u ∈ wc, u.oneCell' = true) (h : Rdd w 2 A5 n5 wc) : Calls Try.prog 39 #[.agg #[.slice B1 m1 d1, .slice B2 m2 d2, .slice B3 m3 d3, .slice A4 n4 c4, .slice A5 n5 c5], .agg #[.bool b, .slice A n c]] w fun e w' => ∃ A' c', e = .returned (.agg #[.slice B1 m1 d1, .slice B2 m2 d2, .slice B3 m3 d3, .slice A4 n4 c4, .slice A' (n5 + 1) c']) ∧ Rdd w' 2 A' (n5 + 1) (wc ++ [.bool b, .slice A n c]) ∧ FrA w A' ∧ Bel w.heap.size w w' := by
  have M := Lib.hid (Own.start [] w (fun y => Rdd y 2 A5 n5 wc) fun y hy => h.old hy)
  clear h
  go_enter Try.func39, Try.ntmps39
  generalize hQ : bodyPost Try.prog Try.f39 (fun e w' => ∃ A' c', e = .returned (.agg #[.slice B1 m1 d1, .slice B2 m2 d2, .slice B3 m3 d3, .slice A4 n4 c4, .slice A' (n5 + 1) c']) ∧ Rdd w' 2 A' (n5 + 1) (wc ++ [.bool b, .slice A n c]) ∧ FrA w A' ∧ Bel w.heap.size w w') = Q
  have HQ := Lib.hid hQ; clear hQ
  go_upto_region 1 with (first | ((with_reducible refine g_bx 70 2 ?_); refine l_bx rfl M.out ?_; clear M; intro g2 w' hg2 M) | ((with_reducible refine g_bx 49 3 ?_); refine l_bx rfl M.out ?_; clear M; intro g3 w' hg3 M; replace M := Lib.hid M.out.freeze) | ((with_reducible refine g_al 70 4 ?_); refine l_al F_M M.out ?_; clear M; intro g4 w' hg4 M))
  replace M := Lib.hid M.out.drew
  refine tb (fun y => Rdd y 2 A5 n5 wc ∧ Blk y g3 49 #[.bool b, .slice A n c]) M.out.now ?_
  refine tkp 1 rfl M.out.now ?_
  refine tk 4 rfl M.out.now (y_ld F_Path _ _ rfl _ _ (fun _ h => h.2) rfl) ?_
  refine tr [0, 2, 5] ?_
  refine r_bs0 SL_sPath lit0_sPath (i := 0) rfl M.out ?_ ?_
  · clear M; intro g5 w' hg5 M; refine ⟨M.out.now, tn ?_⟩
    refine tr [2, 5] ?_
    refine r_ld1 O_sPath (i := 2) rfl rfl M.out (by repeat constructor) (by exact rfl) ?_ ?_
    · refine ⟨M.out.now, tn ?_⟩
      refine tr [3, 5] ?_
      refine r_apR SL_sPath (i := 3) rfl rfl rfl M.out (by repeat constructor) (M.out.now.1) (h1) (by unfold maxLen; omega) (by omega) ?_ ?_
      · intro v1 w' Mn; have Mn := Mn _ (by repeat constructor); simp only [Nat.zero_add, List.nil_append] at Mn; replace M := Lib.hid Mn; clear Mn; refine ⟨M.out.now, tn ?_⟩
        refine tr [5] ?_
        refine r_bs SL_sPath (i := 5) rfl (cs := #[.bool b, .slice A n c]) (by kernel_rfl) M.out ?_ ?_
        · clear M; intro g11 w' hg11 M; refine ⟨M.out.now, tn ?_⟩
          refine tr [6] ?_
          refine r_apB SL_sPath (i := 6) rfl rfl rfl M.out (by repeat constructor) (by repeat constructor) (by exact rfl) (by exact rfl) (by unfold maxLen; omega) (by omega) ?_ ?_
          · intro v2 w' Mn; have Mn := Mn _ (by repeat constructor); replace M := Lib.hid Mn; clear Mn; obtain ⟨Af, cf, hv, -⟩ := own_reads (M.out.row _ List.mem_cons_self); simp only at hv; subst hv; refine ⟨M.out.now, tn ?_⟩
            refine tkp 7 rfl M.out.now ?_
            refine tr [8] ?_
            refine r_st1 O_sPath (i := 8) rfl rfl rfl (by exact rfl) M.out (by repeat constructor) ?_ ?_
            · clear M; intro w' M; refine ⟨M.out.now, tn ?_⟩
              refine te ?_
              go_wp2_with (first | ((with_reducible refine g_ld 70 ?_); refine l_ld F_M rfl M.out (by repeat constructor) (by exact rfl) ?_) | ((with_reducible refine g_st 70 ?_); refine l_st F_M rfl rfl M.out (by repeat constructor) (by exact rfl) (by exact rfl) (by exact rfl) ?_; clear M; intro w' M))
              obtain ⟨Af2, cf2, hv, -, hfr, hrd⟩ := own_reads (M.out.row _ List.mem_cons_self)
              cases hv
              rw [← HQ.out]
              exact bodyPost_ret (results_1 Try.results39 _ _ g4 _ _ rfl (M.out.blk (g4, _, _) (by repeat constructor)) F_M rfl) rfl ⟨_, _, rfl, hrd, hfr, M.out.bel0⟩
            exact .nil
          exact .nil
        exact .nil
      refine r_bs SL_sPath (i := 5) rfl (cs := #[.bool b, .slice A n c]) (by kernel_rfl) M.out ?_ ?_
      · clear M; intro g11 w' hg11 M; refine ⟨M.out.now, tn ?_⟩
        refine tr [3] ?_
        refine r_apR SL_sPath (i := 3) rfl rfl rfl M.out (by repeat constructor) (M.out.now.1) (h1) (by unfold maxLen; omega) (by omega) ?_ ?_
        · intro v1 w' Mn; have Mn := Mn _ (by repeat constructor); simp only [Nat.zero_add, List.nil_append] at Mn; replace M := Lib.hid Mn; clear Mn; refine ⟨M.out.now, tn ?_⟩
          refine tr [6] ?_
          refine r_apB SL_sPath (i := 6) rfl rfl rfl M.out (by repeat constructor) (by repeat constructor) (by exact rfl) (by exact rfl) (by unfold maxLen; omega) (by omega) ?_ ?_
          · intro v2 w' Mn; have Mn := Mn _ (by repeat constructor); replace M := Lib.hid Mn; clear Mn; obtain ⟨Af, cf, hv, -⟩ := own_reads (M.out.row _ List.mem_cons_self); simp only at hv; subst hv; refine ⟨M.out.now, tn ?_⟩
            refine tkp 7 rfl M.out.now ?_
            refine tr [8] ?_
            refine r_st1 O_sPath (i := 8) rfl rfl rfl (by exact rfl) M.out (by repeat constructor) ?_ ?_
            · clear M; intro w' M; refine ⟨M.out.now, tn ?_⟩
              refine te ?_
              go_wp2_with (first | ((with_reducible refine g_ld 70 ?_); refine l_ld F_M rfl M.out (by repeat constructor) (by exact rfl) ?_) | ((with_reducible refine g_st 70 ?_); refine l_st F_M rfl rfl M.out (by repeat constructor) (by exact rfl) (by exact rfl) (by exact rfl) ?_; clear M; intro w' M))
              obtain ⟨Af2, cf2, hv, -, hfr, hrd⟩ := own_reads (M.out.row _ List.mem_cons_self)
              cases hv
              rw [← HQ.out]
              exact bodyPost_ret (results_1 Try.results39 _ _ g4 _ _ rfl (M.out.blk (g4, _, _) (by repeat constructor)) F_M rfl) rfl ⟨_, _, rfl, hrd, hfr, M.out.bel0⟩
            exact .nil
          exact .nil
        exact .nil
      exact .nil
    refine r_bs SL_sPath (i := 5) rfl (cs := #[.bool b, .slice A n c]) (by kernel_rfl) M.out ?_ ?_
    · clear M; intro g11 w' hg11 M; refine ⟨M.out.now, tn ?_⟩
      refine tr [2] ?_
      refine r_ld1 O_sPath (i := 2) rfl rfl M.out (by repeat constructor) (by exact rfl) ?_ ?_
      · refine ⟨M.out.now, tn ?_⟩
        refine tr [3] ?_
        refine r_apR SL_sPath (i := 3) rfl rfl rfl M.out (by repeat constructor) (M.out.now.1) (h1) (by unfold maxLen; omega) (by omega) ?_ ?_
        · intro v1 w' Mn; have Mn := Mn _ (by repeat constructor); simp only [Nat.zero_add, List.nil_append] at Mn; replace M := Lib.hid Mn; clear Mn; refine ⟨M.out.now, tn ?_⟩
          refine tr [6] ?_
          refine r_apB SL_sPath (i := 6) rfl rfl rfl M.out (by repeat constructor) (by repeat constructor) (by exact rfl) (by exact rfl) (by unfold maxLen; omega) (by omega) ?_ ?_
          · intro v2 w' Mn; have Mn := Mn _ (by repeat constructor); replace M := Lib.hid Mn; clear Mn; obtain ⟨Af, cf, hv, -⟩ := own_reads (M.out.row _ List.mem_cons_self); simp only at hv; subst hv; refine ⟨M.out.now, tn ?_⟩
            refine tkp 7 rfl M.out.now ?_
            refine tr [8] ?_
            refine r_st1 O_sPath (i := 8) rfl rfl rfl (by exact rfl) M.out (by repeat constructor) ?_ ?_
            · clear M; intro w' M; refine ⟨M.out.now, tn ?_⟩
              refine te ?_
              go_wp2_with (first | ((with_reducible refine g_ld 70 ?_); refine l_ld F_M rfl M.out (by repeat constructor) (by exact rfl) ?_) | ((with_reducible refine g_st 70 ?_); refine l_st F_M rfl rfl M.out (by repeat constructor) (by exact rfl) (by exact rfl) (by exact rfl) ?_; clear M; intro w' M))
              obtain ⟨Af2, cf2, hv, -, hfr, hrd⟩ := own_reads (M.out.row _ List.mem_cons_self)
              cases hv
              rw [← HQ.out]
              exact bodyPost_ret (results_1 Try.results39 _ _ g4 _ _ rfl (M.out.blk (g4, _, _) (by repeat constructor)) F_M rfl) rfl ⟨_, _, rfl, hrd, hfr, M.out.bel0⟩
            exact .nil
          exact .nil
        exact .nil
      exact .nil
    exact .nil
  refine r_ld1 O_sPath (i := 2) rfl rfl M.out (by repeat constructor) (by exact rfl) ?_ ?_
  · refine ⟨M.out.now, tn ?_⟩
    refine tr [0, 5] ?_
    refine r_bs0 SL_sPath lit0_sPath (i := 0) rfl M.out ?_ ?_
    · clear M; intro g5 w' hg5 M; refine ⟨M.out.now, tn ?_⟩
      refine tr [3, 5] ?_
      refine r_apR SL_sPath (i := 3) rfl rfl rfl M.out (by repeat constructor) (M.out.now.1) (h1) (by unfold maxLen; omega) (by omega) ?_ ?_
      · intro v1 w' Mn; have Mn := Mn _ (by repeat constructor); simp only [Nat.zero_add, List.nil_append] at Mn; replace M := Lib.hid Mn; clear Mn; refine ⟨M.out.now, tn ?_⟩
        refine tr [5] ?_
        refine r_bs SL_sPath (i := 5) rfl (cs := #[.bool b, .slice A n c]) (by kernel_rfl) M.out ?_ ?_
        · clear M; intro g11 w' hg11 M; refine ⟨M.out.now, tn ?_⟩
          refine tr [6] ?_
          refine r_apB SL_sPath (i := 6) rfl rfl rfl M.out (by repeat constructor) (by repeat constructor) (by exact rfl) (by exact rfl) (by unfold maxLen; omega) (by omega) ?_ ?_
          · intro v2 w' Mn; have Mn := Mn _ (by repeat constructor); replace M := Lib.hid Mn; clear Mn; obtain ⟨Af, cf, hv, -⟩ := own_reads (M.out.row _ List.mem_cons_self); simp only at hv; subst hv; refine ⟨M.out.now, tn ?_⟩
            refine tkp 7 rfl M.out.now ?_
            refine tr [8] ?_
            refine r_st1 O_sPath (i := 8) rfl rfl rfl (by exact rfl) M.out (by repeat constructor) ?_ ?_
            · clear M; intro w' M; refine ⟨M.out.now, tn ?_⟩
              refine te ?_
              go_wp2_with (first | ((with_reducible refine g_ld 70 ?_); refine l_ld F_M rfl M.out (by repeat constructor) (by exact rfl) ?_) | ((with_reducible refine g_st 70 ?_); refine l_st F_M rfl rfl M.out (by repeat constructor) (by exact rfl) (by exact rfl) (by exact rfl) ?_; clear M; intro w' M))
              obtain ⟨Af2, cf2, hv, -, hfr, hrd⟩ := own_reads (M.out.row _ List.mem_cons_self)
              cases hv
              rw [← HQ.out]
              exact bodyPost_ret (results_1 Try.results39 _ _ g4 _ _ rfl (M.out.blk (g4, _, _) (by repeat constructor)) F_M rfl) rfl ⟨_, _, rfl, hrd, hfr, M.out.bel0⟩
            exact .nil
          exact .nil
        exact .nil
      refine r_bs SL_sPath (i := 5) rfl (cs := #[.bool b, .slice A n c]) (by kernel_rfl) M.out ?_ ?_
      · clear M; intro g11 w' hg11 M; refine ⟨M.out.now, tn ?_⟩
        refine tr [3] ?_
        refine r_apR SL_sPath (i := 3) rfl rfl rfl M.out (by repeat constructor) (M.out.now.1) (h1) (by unfold maxLen; omega) (by omega) ?_ ?_
        · intro v1 w' Mn; have Mn := Mn _ (by repeat constructor); simp only [Nat.zero_add, List.nil_append] at Mn; replace M := Lib.hid Mn; clear Mn; refine ⟨M.out.now, tn ?_⟩
          refine tr [6] ?_
          refine r_apB SL_sPath (i := 6) rfl rfl rfl M.out (by repeat constructor) (by repeat constructor) (by exact rfl) (by exact rfl) (by unfold maxLen; omega) (by omega) ?_ ?_
          · intro v2 w' Mn; have Mn := Mn _ (by repeat constructor); replace M := Lib.hid Mn; clear Mn; obtain ⟨Af, cf, hv, -⟩ := own_reads (M.out.row _ List.mem_cons_self); simp only at hv; subst hv; refine ⟨M.out.now, tn ?_⟩
            refine tkp 7 rfl M.out.now ?_
            refine tr [8] ?_
            refine r_st1 O_sPath (i := 8) rfl rfl rfl (by exact rfl) M.out (by repeat constructor) ?_ ?_
            · clear M; intro w' M; refine ⟨M.out.now, tn ?_⟩
              refine te ?_
              go_wp2_with (first | ((with_reducible refine g_ld 70 ?_); refine l_ld F_M rfl M.out (by repeat constructor) (by exact rfl) ?_) | ((with_reducible refine g_st 70 ?_); refine l_st F_M rfl rfl M.out (by repeat constructor) (by exact rfl) (by exact rfl) (by exact rfl) ?_; clear M; intro w' M))
              obtain ⟨Af2, cf2, hv, -, hfr, hrd⟩ := own_reads (M.out.row _ List.mem_cons_self)
              cases hv
              rw [← HQ.out]
              exact bodyPost_ret (results_1 Try.results39 _ _ g4 _ _ rfl (M.out.blk (g4, _, _) (by repeat constructor)) F_M rfl) rfl ⟨_, _, rfl, hrd, hfr, M.out.bel0⟩
            exact .nil
          exact .nil
        exact .nil
      exact .nil
    refine r_bs SL_sPath (i := 5) rfl (cs := #[.bool b, .slice A n c]) (by kernel_rfl) M.out ?_ ?_
    · clear M; intro g11 w' hg11 M; refine ⟨M.out.now, tn ?_⟩
      refine tr [0] ?_
      refine r_bs0 SL_sPath lit0_sPath (i := 0) rfl M.out ?_ ?_
      · clear M; intro g5 w' hg5 M; refine ⟨M.out.now, tn ?_⟩
        refine tr [3] ?_
        refine r_apR SL_sPath (i := 3) rfl rfl rfl M.out (by repeat constructor) (M.out.now.1) (h1) (by unfold maxLen; omega) (by omega) ?_ ?_
        · intro v1 w' Mn; have Mn := Mn _ (by repeat constructor); simp only [Nat.zero_add, List.nil_append] at Mn; replace M := Lib.hid Mn; clear Mn; refine ⟨M.out.now, tn ?_⟩
          refine tr [6] ?_
          refine r_apB SL_sPath (i := 6) rfl rfl rfl M.out (by repeat constructor) (by repeat constructor) (by exact rfl) (by exact rfl) (by unfold maxLen; omega) (by omega) ?_ ?_
          · intro v2 w' Mn; have Mn := Mn _ (by repeat constructor); replace M := Lib.hid Mn; clear Mn; obtain ⟨Af, cf, hv, -⟩ := own_reads (M.out.row _ List.mem_cons_self); simp only at hv; subst hv; refine ⟨M.out.now, tn ?_⟩
            refine tkp 7 rfl M.out.now ?_
            refine tr [8] ?_
            refine r_st1 O_sPath (i := 8) rfl rfl rfl (by exact rfl) M.out (by repeat constructor) ?_ ?_
            · clear M; intro w' M; refine ⟨M.out.now, tn ?_⟩
              refine te ?_
              go_wp2_with (first | ((with_reducible refine g_ld 70 ?_); refine l_ld F_M rfl M.out (by repeat constructor) (by exact rfl) ?_) | ((with_reducible refine g_st 70 ?_); refine l_st F_M rfl rfl M.out (by repeat constructor) (by exact rfl) (by exact rfl) (by exact rfl) ?_; clear M; intro w' M))
              obtain ⟨Af2, cf2, hv, -, hfr, hrd⟩ := own_reads (M.out.row _ List.mem_cons_self)
              cases hv
              rw [← HQ.out]
              exact bodyPost_ret (results_1 Try.results39 _ _ g4 _ _ rfl (M.out.blk (g4, _, _) (by repeat constructor)) F_M rfl) rfl ⟨_, _, rfl, hrd, hfr, M.out.bel0⟩
            exact .nil
          exact .nil
        exact .nil
      exact .nil
    exact .nil
  refine r_bs SL_sPath (i := 5) rfl (cs := #[.bool b, .slice A n c]) (by kernel_rfl) M.out ?_ ?_
  · clear M; intro g11 w' hg11 M; refine ⟨M.out.now, tn ?_⟩
    refine tr [0, 2] ?_
    refine r_bs0 SL_sPath lit0_sPath (i := 0) rfl M.out ?_ ?_
    · clear M; intro g5 w' hg5 M; refine ⟨M.out.now, tn ?_⟩
      refine tr [2] ?_
      refine r_ld1 O_sPath (i := 2) rfl rfl M.out (by repeat constructor) (by exact rfl) ?_ ?_
      · refine ⟨M.out.now, tn ?_⟩
        refine tr [3] ?_
        refine r_apR SL_sPath (i := 3) rfl rfl rfl M.out (by repeat constructor) (M.out.now.1) (h1) (by unfold maxLen; omega) (by omega) ?_ ?_
        · intro v1 w' Mn; have Mn := Mn _ (by repeat constructor); simp only [Nat.zero_add, List.nil_append] at Mn; replace M := Lib.hid Mn; clear Mn; refine ⟨M.out.now, tn ?_⟩
          refine tr [6] ?_
          refine r_apB SL_sPath (i := 6) rfl rfl rfl M.out (by repeat constructor) (by repeat constructor) (by exact rfl) (by exact rfl) (by unfold maxLen; omega) (by omega) ?_ ?_
          · intro v2 w' Mn; have Mn := Mn _ (by repeat constructor); replace M := Lib.hid Mn; clear Mn; obtain ⟨Af, cf, hv, -⟩ := own_reads (M.out.row _ List.mem_cons_self); simp only at hv; subst hv; refine ⟨M.out.now, tn ?_⟩
            refine tkp 7 rfl M.out.now ?_
            refine tr [8] ?_
            refine r_st1 O_sPath (i := 8) rfl rfl rfl (by exact rfl) M.out (by repeat constructor) ?_ ?_
            · clear M; intro w' M; refine ⟨M.out.now, tn ?_⟩
              refine te ?_
              go_wp2_with (first | ((with_reducible refine g_ld 70 ?_); refine l_ld F_M rfl M.out (by repeat constructor) (by exact rfl) ?_) | ((with_reducible refine g_st 70 ?_); refine l_st F_M rfl rfl M.out (by repeat constructor) (by exact rfl) (by exact rfl) (by exact rfl) ?_; clear M; intro w' M))
              obtain ⟨Af2, cf2, hv, -, hfr, hrd⟩ := own_reads (M.out.row _ List.mem_cons_self)
              cases hv
              rw [← HQ.out]
              exact bodyPost_ret (results_1 Try.results39 _ _ g4 _ _ rfl (M.out.blk (g4, _, _) (by repeat constructor)) F_M rfl) rfl ⟨_, _, rfl, hrd, hfr, M.out.bel0⟩
            exact .nil
          exact .nil
        exact .nil
      exact .nil
    refine r_ld1 O_sPath (i := 2) rfl rfl M.out (by repeat constructor) (by exact rfl) ?_ ?_
    · refine ⟨M.out.now, tn ?_⟩
      refine tr [0] ?_
      refine r_bs0 SL_sPath lit0_sPath (i := 0) rfl M.out ?_ ?_
      · clear M; intro g5 w' hg5 M; refine ⟨M.out.now, tn ?_⟩
        refine tr [3] ?_
        refine r_apR SL_sPath (i := 3) rfl rfl rfl M.out (by repeat constructor) (M.out.now.1) (h1) (by unfold maxLen; omega) (by omega) ?_ ?_
        · intro v1 w' Mn; have Mn := Mn _ (by repeat constructor); simp only [Nat.zero_add, List.nil_append] at Mn; replace M := Lib.hid Mn; clear Mn; refine ⟨M.out.now, tn ?_⟩
          refine tr [6] ?_
          refine r_apB SL_sPath (i := 6) rfl rfl rfl M.out (by repeat constructor) (by repeat constructor) (by exact rfl) (by exact rfl) (by unfold maxLen; omega) (by omega) ?_ ?_
          · intro v2 w' Mn; have Mn := Mn _ (by repeat constructor); replace M := Lib.hid Mn; clear Mn; obtain ⟨Af, cf, hv, -⟩ := own_reads (M.out.row _ List.mem_cons_self); simp only at hv; subst hv; refine ⟨M.out.now, tn ?_⟩
            refine tkp 7 rfl M.out.now ?_
            refine tr [8] ?_
            refine r_st1 O_sPath (i := 8) rfl rfl rfl (by exact rfl) M.out (by repeat constructor) ?_ ?_
            · clear M; intro w' M; refine ⟨M.out.now, tn ?_⟩
              refine te ?_
              go_wp2_with (first | ((with_reducible refine g_ld 70 ?_); refine l_ld F_M rfl M.out (by repeat constructor) (by exact rfl) ?_) | ((with_reducible refine g_st 70 ?_); refine l_st F_M rfl rfl M.out (by repeat constructor) (by exact rfl) (by exact rfl) (by exact rfl) ?_; clear M; intro w' M))
              obtain ⟨Af2, cf2, hv, -, hfr, hrd⟩ := own_reads (M.out.row _ List.mem_cons_self)
              cases hv
              rw [← HQ.out]
              exact bodyPost_ret (results_1 Try.results39 _ _ g4 _ _ rfl (M.out.blk (g4, _, _) (by repeat constructor)) F_M rfl) rfl ⟨_, _, rfl, hrd, hfr, M.out.bel0⟩
            exact .nil
          exact .nil
        exact .nil
      exact .nil
    exact .nil
  exact .nil

end

end Go.Proofs.Ytpcbcodmocmilaa
