/- G50: Qo, Ef, RowA, RowF joined. -/
import Derived.ProofKit
import Derived.OpenShut
import Derived.ShutString
import Derived.ChangeSame
import Derived.Lay
import Derived.LaidMore
import Derived.Stop.Joined
import Derived.Stop.LaidErr
import Derived.Test.YtpcbcodmocmilaaDoorG05
import Derived.Test.YtpcbcodmocmilaaDoorYp
import Derived.Test.YtpcbcodmocmilaaDoorEe
import Derived.Test.YtpcbcodmocmilaaDoorG37
import Derived.Test.YtpcbcodmocmilaaDoorA0
import Derived.Test.YtpcbcodmocmilaaDoorRows
import Derived.Test.YtpcbcodmocmilaaDoorZm
namespace Go.Proofs.YtpcbcodmocmilaaDoor
open Go.RowKit
/- Queries read, plain: the two ways of reading give one tree, where there is no fault (no word of a dump). -/
section

/-- The same state, and the same tree where there is no fault. -/
def SameR {α : Type} (a b : α × PSt) : Prop := a.2 = b.2 ∧ (a.2.fe = 0 → a.1 = b.1)
theorem SameR.refl {α : Type} (a : α × PSt) : SameR a a := ⟨rfl, fun _ => rfl⟩
theorem SameR.map {α β : Type} {a b : α × PSt} (h : SameR a b) (g : α → β) : SameR (g a.1, a.2) (g b.1, b.2) := ⟨h.1, fun e => congrArg g (h.2 e)⟩
theorem SameR.post {α : Type} {a b : α × PSt} (h : SameR a b) (u : PSt → PSt) (hu : ∀ s, s.fe ≠ 0 → u s = s) : SameR (a.1, u a.2) (b.1, u b.2) :=
  ⟨congrArg u h.1, fun e => h.2 (Classical.byContradiction fun hs => by simp only at e; rw [hu _ hs] at e; exact hs e)⟩
/-- Two readers of expressions. -/
def Eqp (P P' : Nat → PSt → ExprT × PSt) : Prop := ∀ d t, SameR (P d t) (P' d t)
section
variable {E : Int} {P P' : Nat → PSt → ExprT × PSt} (h : Eqp P P') (d : Nat)
include h
end
end
/- law18: QshowShows (printed by gen_ef.py). -/
section
open Go.RowKit

theorem lw_fr' {w y : World} : Kp (Fr w) (Lw y) y y := ⟨Nat.le_refl _, fun _ _ hb => ⟨hb, rfl⟩⟩
theorem segs_lw {w y : World} {m : Nat} {v : Value} {l : List SegT} (h : SegsG (Fr w) (ExR (Fr w) m y) y v l) : SegsG (Lw y) (ExR (Lw y) m y) y v l := SegsG.keep h lw_fr' fun _ _ h => ExR.keep lw_fr' m m (Nat.le_refl _) _ _ h
theorem O_ern : OneF Tryd.prog 26 := ⟨⟨_, Tryd.underlying26, rfl⟩, by kernel_rfl⟩
theorem F_Flq : TyF Tryd.prog 28 2 #[.int .i64 0, .int .i64 0] := ⟨⟨_, Tryd.underlying28, rfl⟩, by kernel_rfl, by kernel_rfl⟩
section
variable {P : Program} {S : World → Prop} {ops : Array Oper} {md : Region.Mode} {fuel i : Nat} {listed : Array Bool} {is : List Nat} {dst : Option Tmp} {tt : TypeId} {pos : String} {af : Array Edge} {a : Act} {w : World} {Q : Exit → Act → World → Prop}
theorem q_ldG {T : TypeId} {n : Nat} {z : Array Value} (F : TyF P T n z) {gd : Nat × Bool} (x : Operand) (g : Nat) (hx : a.eval x = .pointer (some ⟨g, 0, none⟩)) (T' : TypeId) (cs : Array Value) (hS : ∀ w, S w → Blk w g T' cs) (hn : cs.size = n) (hw : Region.wanted ⟨dst, .load T x, tt, pos, af, some gd⟩ (yielded ops a.tmps) = true := by rfl) : YieldsIf P ops S ⟨dst, .load T x, tt, pos, af, some gd⟩ (.agg cs) a := by
  obtain ⟨d, hu, hd⟩ := F.u
  refine .inl ⟨hw, fun w hw' => ?_⟩
  unfold execOp
  simp only [hx, Instr.loadAt, Instr.sureAddr, Sem.run_bind, Sem.run_pure, Result.andThen_ok, run_loadVar_row w g T' T cs (0, 0) d (hS w hw') hu (by cases d <;> first | rfl | cases hd) (by rw [hn]; exact F.s)]
theorem q_no {o : Oper} (hw : Region.wanted o (yielded ops a.tmps) = false) : YieldsIf P ops S o undef a := .inr ⟨hw, rfl⟩
theorem q_callg {gd : Nat × Bool} {f : FuncId} {args : Array Value} {R : Ending → World → Prop} (hc : Calls P f args w R) {op : Op} (ho : ops[i]? = some ⟨dst, op, tt, pos, af, some gd⟩) (hw : Region.wanted ⟨dst, op, tt, pos, af, some gd⟩ (yielded ops a.tmps) = true) (hrun : (execOp a.eval ⟨dst, op, tt, pos, af, some gd⟩).run P w = .ok (.enter f args) w)
    (h : ∀ e w', R e w' → ∃ v, e = .returned v ∧ S w' ∧ wpAnyH P md ops Q S fuel (listed.setIfInBounds i true) (a.put dst v) w') (hs : AllReadyH P md ops Q S fuel listed a w is) : AllReadyH P md ops Q S fuel listed a w (i :: is) := by
  refine AllReadyH.cons ho (fun K hK => ?_) hs
  rw [if_pos hw]
  refine wp_of_call hrun (hc.mono fun e w' he => ?_)
  obtain ⟨v, h1, h2, h3⟩ := h e w' he
  exact ⟨v, h1, hK.out _ _ h2 fun _ => h3⟩
end
theorem rparse_ok {s : ByteArray} {p : PathT} (w : World) (hs : s.size ≤ 4096) (h : parseT false s.data.toList = .ok p) :
    Calls Tryd.prog 6 #[.string s] w fun e w' => ∃ m A c, e = .returned (.tuple #[.agg #[.bool p.abs, .slice A p.segs.length c], .agg #[.int .i64 0, .int .i64 0]]) ∧ SegsG (Fr w) (ExR (Fr w) m w') w' (.slice A p.segs.length c) p.segs ∧ Bel w.heap.size w w' := by
  have := rparse_any s w hs
  unfold RParseP at this
  rw [h] at this
  refine this.mono ?_
  rintro e w' ⟨⟨m, A, c, rfl, hs⟩, hb⟩
  exact ⟨m, A, c, rfl, hs, hb⟩
theorem rparse_err {s : ByteArray} {x a : Int} (w : World) (hs : s.size ≤ 4096) (h : parseT false s.data.toList = .error (x, a)) :
    Calls Tryd.prog 6 #[.string s] w fun e w' => e = .returned (.tuple #[.agg #[.bool false, .slice none 0 0], .agg #[.int .i64 x, .int .i64 a]]) ∧ Bel w.heap.size w w' := by
  have := rparse_any s w hs
  unfold RParseP at this
  rw [h] at this; exact this
theorem SS.up {N M : Nat} (h : N ≤ M) {t : List UInt8} (k : SS N t) : SS M t := ⟨Nat.le_trans k.1 h, k.2⟩
set_option maxRecDepth 100000 in
theorem awake18 (w : World) (ht : Tab w) : Calls Tryd.prog 5 #[] w fun e w' => e = .returned (.bool true) ∧ Bel w.heap.size w w' := by
  have HS := Lib.hid (wshow_any (N := 0) (by omega) ⟨true, []⟩ (.slice none 0 0) 0 w (fun s h => by simp at h) ⟨none, 0, rfl, ⟨Nat.le_refl _, by omega⟩, .inl rfl⟩ ht (by decide))
  go_enter Tryd.func5, Tryd.ntmps5
  go_wp2_with (go_at_call 7; (refine HS.out.mono ?_); rintro e w' ⟨rfl, hb⟩; have HB := Lib.hid hb; clear hb; rw [show bs (showT ⟨true, []⟩) = ⟨#[36]⟩ from rfl])
  go_ret
  exact ⟨rfl, HB.out⟩

set_option maxRecDepth 100000 in
set_option maxHeartbeats 2000000 in
theorem qshows_long (s : ByteArray) (w : World) (ht : Tab w) (h1 : 400 < s.size) : Calls Tryd.prog 3 #[.string s] w fun e w' => e = .returned (.bool true) ∧ Bel w.heap.size w w' := by
  have M := Lib.hid (Own.start [] w (fun _ => True) fun _ _ => trivial)
  have HT := Lib.hid ht
  clear ht
  have h1i : (400 : Int) < (s.size : Int) := by omega
  go_enter Tryd.func3, Tryd.ntmps3
  go_wp2_with (go_at_call 5; (with_reducible refine (awake18 _ (HT.out.bel M.out.bel0 (Nat.le_refl _))).mono ?_); rintro e w' ⟨rfl, hb⟩; replace M := Lib.hid (M.out.bel hb); clear hb)
  go_ret
  exact ⟨rfl, M.out.bel0⟩
set_option maxRecDepth 100000 in
set_option maxHeartbeats 2000000 in
theorem qshows_err (s : ByteArray) (w : World) (ht : Tab w) (h1 : s.size ≤ 400) (x a : Int) (hp : parseT false s.data.toList = .error (x, a)) : Calls Tryd.prog 3 #[.string s] w fun e w' => e = .returned (.bool true) ∧ Bel w.heap.size w w' := by
  have M := Lib.hid (Own.start [] w (fun _ => True) fun _ _ => trivial)
  have HT := Lib.hid ht
  clear ht
  have hx : (x != 0) = true := by simpa using err_ne hp
  have HP := Lib.hid hp
  clear hp
  go_enter Tryd.func3, Tryd.ntmps3
  go_upto_region 4 with (first | (go_at_call 5; (with_reducible refine (awake18 _ (HT.out.bel M.out.bel0 (Nat.le_refl _))).mono ?_); rintro e w' ⟨rfl, hb⟩; replace M := Lib.hid (M.out.bel hb); clear hb) | ((with_reducible refine g_al 25 3 ?_); refine l_al F_Path M.out ?_; clear M; intro g3 w' hg3 M) | ((with_reducible refine g_al 28 4 ?_); refine l_al F_Flq M.out ?_; clear M; intro g4 w' hg4 M) | ((with_reducible refine g_st 25 ?_); refine l_st F_Path rfl rfl M.out (by repeat constructor) (by exact rfl) (by exact rfl) (by exact rfl) ?_; clear M; intro w' M) | ((with_reducible refine g_st 28 ?_); refine l_st F_Flq rfl rfl M.out (by repeat constructor) (by exact rfl) (by exact rfl) (by exact rfl) ?_; clear M; intro w' M) | (go_at_call 6; (with_reducible refine (rparse_err (s := s) _ (by omega) HP.out).mono ?_); rintro e w' ⟨rfl, hb⟩; replace M := Lib.hid (M.out.bel hb); clear hb))
  replace M := Lib.hid M.out.freeze
  replace M := Lib.hid M.out.drew
  refine tb (fun y => True ∧ Blk y g4 28 #[.int .i64 x, .int .i64 a]) M.out.now ?_
  refine tkp 0 rfl M.out.now ?_
  refine tk 1 rfl M.out.now (y_ld1 O_ern _ g4 0 rfl _ _ (fun y h => h.2) _ rfl) ?_
  refine tkp 2 rfl M.out.now ?_
  refine tkp 3 rfl M.out.now ?_
  refine tk 4 rfl M.out.now (q_no rfl) ?_
  refine tk 5 rfl M.out.now (q_no rfl) ?_
  refine tk 6 rfl M.out.now (q_no rfl) ?_
  refine tk 7 rfl M.out.now (q_no rfl) ?_
  refine tk 8 rfl M.out.now (q_no rfl) ?_
  refine tkp 9 rfl M.out.now ?_
  refine tkp 10 rfl M.out.now ?_
  refine te ?_
  go_wp2
  go_ret
  exact ⟨rfl, M.out.bel0⟩
set_option maxRecDepth 100000 in
set_option maxHeartbeats 2000000 in
theorem qshows_ok (s : ByteArray) (w : World) (ht : Tab w) (h1 : s.size ≤ 400) (p : PathT) (hp : parseT false s.data.toList = .ok p) : Calls Tryd.prog 3 #[.string s] w fun e w' => e = .returned (.bool true) ∧ Bel w.heap.size w w' := by
  have M := Lib.hid (Own.start [] w (fun _ => True) fun _ _ => trivial)
  have HT := Lib.hid ht
  clear ht
  obtain ⟨a1, a2, a3⟩ := parse_wfS hp
  rw [len_toList] at a1 a2
  have hlen := showT_len (by omega) a1
  have hSA := fun (m1 c1 : Nat) (A1 : Option Addr) (W : World) (hv : SegsG (Fr w) (ExR (Fr w) m1 W) W (.slice A1 p.segs.length c1) p.segs) (hT : Tab W) => wshow_any (N := 4 * s.size) (by omega) p _ m1 W a1 (segs_lw hv) hT (by omega)
  have hSB := fun (m1 c1 : Nat) (A1 : Option Addr) (W : World) (hv : SegsG (Fr w) (ExR (Fr w) m1 W) W (.slice A1 p.segs.length c1) p.segs) => zshowq_any (N := 4 * s.size) (by omega) p _ m1 W a1 (segs_lw hv) (by omega)
  have HPA := Lib.hid hSA
  have HPB := Lib.hid hSB
  have HP := Lib.hid hp
  clear hp hSA hSB a1 a2 a3 hlen
  go_enter Tryd.func3, Tryd.ntmps3
  go_upto_region 4 with (first | (go_at_call 5; (with_reducible refine (awake18 _ (HT.out.bel M.out.bel0 (Nat.le_refl _))).mono ?_); rintro e w' ⟨rfl, hb⟩; replace M := Lib.hid (M.out.bel hb); clear hb) | ((with_reducible refine g_al 25 3 ?_); refine l_al F_Path M.out ?_; clear M; intro g3 w' hg3 M) | ((with_reducible refine g_al 28 4 ?_); refine l_al F_Flq M.out ?_; clear M; intro g4 w' hg4 M) | ((with_reducible refine g_st 25 ?_); refine l_st F_Path rfl rfl M.out (by repeat constructor) (by exact rfl) (by exact rfl) (by exact rfl) ?_; clear M; intro w' M) | ((with_reducible refine g_st 28 ?_); refine l_st F_Flq rfl rfl M.out (by repeat constructor) (by exact rfl) (by exact rfl) (by exact rfl) ?_; clear M; intro w' M) | (go_at_call 6; (with_reducible refine (rparse_ok (s := s) _ (by omega) HP.out).mono ?_); rintro e w' ⟨m1, A1, c1, rfl, hsg, hb⟩; have Mn := M.out.addK (G := fun K y => SegsG K (ExR K m1 y) y (.slice A1 p.segs.length c1) p.segs) (fun h hk => SegsG.keep h hk fun _ _ h => ExR.keep hk _ _ (Nat.le_refl _) _ _ h) hb hsg; replace M := Lib.hid Mn; clear Mn hb hsg))
  replace M := Lib.hid (M.out.freeze.freeze.imp (J' := fun y => SegsG (Fr w) (ExR (Fr w) m1 y) y (.slice A1 p.segs.length c1) p.segs ∧ Blk y g3 25 #[.bool p.abs, .slice A1 p.segs.length c1] ∧ Blk y g4 28 #[.int .i64 0, .int .i64 0]) fun y h => ⟨h.1.1.2, h.2, h.1.2⟩)
  have HSA := Lib.hid (fun (W : World) (hJ : (fun y => SegsG (Fr w) (ExR (Fr w) m1 y) y (.slice A1 p.segs.length c1) p.segs ∧ Blk y g3 25 #[.bool p.abs, .slice A1 p.segs.length c1] ∧ Blk y g4 28 #[.int .i64 0, .int .i64 0]) W) (hT : Tab W) => HPA.out m1 c1 A1 W hJ.1 hT)
  have HSB := Lib.hid (fun (W : World) (hJ : (fun y => SegsG (Fr w) (ExR (Fr w) m1 y) y (.slice A1 p.segs.length c1) p.segs ∧ Blk y g3 25 #[.bool p.abs, .slice A1 p.segs.length c1] ∧ Blk y g4 28 #[.int .i64 0, .int .i64 0]) W) (_ : Tab W) => HPB.out m1 c1 A1 W hJ.1)
  replace M := Lib.hid M.out.drew
  refine tb (fun y => SegsG (Fr w) (ExR (Fr w) m1 y) y (.slice A1 p.segs.length c1) p.segs ∧ Blk y g3 25 #[.bool p.abs, .slice A1 p.segs.length c1] ∧ Blk y g4 28 #[.int .i64 0, .int .i64 0]) M.out.now ?_
  refine tkp 0 rfl M.out.now ?_
  refine tk 1 rfl M.out.now (y_ld1 O_ern _ g4 0 rfl _ _ (fun y h => h.2.2) _ rfl) ?_
  refine tkp 2 rfl M.out.now ?_
  refine tkp 3 rfl M.out.now ?_
  refine tk 4 rfl M.out.now (q_ldG F_Path _ g3 rfl _ _ (fun y h => h.2.1) rfl) ?_
  refine tk 6 rfl M.out.now (q_ldG F_Path _ g3 rfl _ _ (fun y h => h.2.1) rfl) ?_
  refine tr [5] ?_
  refine q_callg (HSA.out _ M.out.now (HT.out.bel M.out.bel0 (Nat.le_refl _))) (i := 5) (op := .call _) rfl rfl (by go_simp) ?_ ?_
  · rintro e_ w' ⟨rfl, hb⟩; replace M := Lib.hid (M.out.bel hb); clear hb; refine ⟨_, rfl, ?_⟩; refine ⟨M.out.now, tn ?_⟩
    refine tr [7] ?_
    refine q_callg (HSB.out _ M.out.now (HT.out.bel M.out.bel0 (Nat.le_refl _))) (i := 7) (op := .call _) rfl rfl (by go_simp) ?_ ?_
    · rintro e_ w' ⟨rfl, hb⟩; replace M := Lib.hid (M.out.bel hb); clear hb; refine ⟨_, rfl, ?_⟩; refine ⟨M.out.now, tn ?_⟩
      refine tkp 8 rfl M.out.now ?_
      refine tkp 9 rfl M.out.now ?_
      refine tkp 10 rfl M.out.now ?_
      refine te ?_
      go_wp2
      go_ret
      exact ⟨rfl, M.out.bel0⟩
    exact .nil
  exact .nil
theorem qshows_any (s : ByteArray) (w : World) (ht : Tab w) (_ : s.size ≤ maxLen) : Calls Tryd.prog 3 #[.string s] w fun e w' => e = .returned (.bool true) ∧ Bel w.heap.size w w' := by
  by_cases h1 : s.size ≤ 400
  · cases hp : parseT false s.data.toList with
    | error x => exact qshows_err s w ht h1 x.1 x.2 hp
    | ok p => exact qshows_ok s w ht h1 p hp
  · exact qshows_long s w ht (by omega)


end
/- The row's last step where of the world behind the call 'Bel' is known. -/
section
open Go.RowKit Go.WideShapes Go.ChangeShapes

theorem Bel.frame {W W' : World} (h : Bel W.heap.size W W') (may : MemPlace → Prop) : W.keptBut W' may := by
  refine ⟨h.os, h.output, fun i hi => ?_⟩
  rw [h.block i hi]
  split <;> simp_all

section
variable {H : Type} {enc : TypeId × Value → H} {P : Program}
theorem post_of_bel {f : Func} {s : ChangeSpec} {apart fresh handsOn again : Bool} {W W' : World} {args : Array Value} {v : Value} {ds gs : List (DataW H)} {before pa pv : List MemPlace}
    (hW : DataW.Whole enc P f.params.toList s.vars apart W args.toList ds gs before)
    (hres : ∀ (b : Nat) (sp : Nat → Bool) (hd : Bool), DataW.TrodAll enc P W' b sp hd f.resultTypes.toList (v.resultList f.resultTypes.size) (s.fn H (ds ++ gs)).results [])
    (hargs : ∀ sp : Nat → Bool, (∀ p ∈ before, sp p.block = true) → DataW.TrodAll enc P W' 0 sp true f.params.toList args.toList (s.fn H (ds ++ gs)).args pa)
    (hvars : ∀ sp : Nat → Bool, (∀ p ∈ before, sp p.block = true) → DataW.TrodVars enc P W' sp s.vars (s.fn H (ds ++ gs)).vars pv)
    (hps : before = pa ++ pv) (hb : Bel W.heap.size W W')
    (hok : ∀ (j : Nat) (t : TypeId) (r : Value), f.resultTypes[j]? = some t → (v.resultList f.resultTypes.size)[j]? = some r → Value.okWide P W' .any 0 t r) :
    s.post enc P f apart fresh handsOn again W args v W' := by
  have hlt : ∀ p ∈ before, p.block < W.heap.size := fun p hp => hW.lt p hp
  have hold : ∀ p ∈ before, (fun b => decide (b < W.heap.size)) p.block = true := fun p hp => by simpa using hlt p hp
  refine ⟨ds, gs, before, [], pa, pv, hW, hres _ _ _, hargs _ hold, hvars _ hold, World.keptBut_mono (fun p hp => ⟨hp, ?_⟩) (hb.frame (· ∈ before)), fun _ => ?_⟩
  · rw [hps, List.mem_append] at hp
    exact Or.inr hp
  · obtain ⟨_, _, _, _, _, hz, hn⟩ := hW
    refine ⟨hok, _, _, ([] ++ pa) ++ pv, ⟨[] ++ pa, pv, trodAll_append (hargs _ (fun _ _ => rfl)) (hres _ _ _), hvars _ (fun _ _ => rfl), rfl, ?_, ?_⟩, ?_⟩
    · intro b off hp
      have hin : MemPlace.cell b off ∈ before := by rw [hps]; simpa using hp
      rw [hb.frozen (hlt _ hin)]
      exact hz b off hin
    · intro ha
      have := hn ha
      rw [hps] at this
      simpa using this
    · intro p hp _
      rw [hps]
      simpa using hp
end

theorem own : ownKnob Tryd.prog.godebug = none := by kernel_rfl

end
/- The rows' common part: the library's tables as they are laid (the heap laid by the kit's law). -/
section
open Go.ChangeShapes Go.WideShapes Go.ChangeAt Go.RowKit

def laid3 : List (String × DataW Unit) := [("math/bits.deBruijn32tab", Rows.laid_math_bits_deBruijn32tab), ("math/bits.deBruijn64tab", Rows.laid_math_bits_deBruijn64tab), ("internal/strconv.uint64pow10", Rows.laid_internal_strconv_uint64pow10)]
/-- The heap with the tables laid meets the condition. -/
theorem door_met (os : Os) (args : Array Value) : laidMetH Tryd.prog laid3 ((World.laidAll Tryd.prog os laid3).forCall (fun _ _ => 0) ⟨#[], args, []⟩).memory := by
  rw [MakeChecks.laidMetH_plain _ _ _ (by kernel_rfl)]
  exact laidMet_laidAll _ (by kernel_rfl) (by kernel_rfl)
theorem door_shaped (os : Os) : (World.laidAll Tryd.prog os laid3).Shaped Tryd.prog := World.shaped_of_ZipB (by kernel_rfl) (by kernel_rfl)
theorem tab_g : ∃ g, Tryd.prog.globalNamed "internal/strconv.uint64pow10" = some g ∧ (Tryd.prog.globals[g]?).map (·.type) = some 186 := ⟨0, by kernel_rfl, by kernel_rfl⟩
theorem tab_cells1 : Tryd.prog.cellsOf 173 = 1 := by kernel_rfl
theorem tab_cells20 : Tryd.prog.cellsOf 186 = 20 := by kernel_rfl
/-- What the condition gives the walk. -/
theorem tab_of_laid {W : World} (h : laidMetH Tryd.prog laid3 W) : Tab W := by
  rw [MakeChecks.laidMetH_plain _ _ _ (by kernel_rfl)] at h
  have h : laidMet Tryd.prog laid3 W := h
  obtain ⟨g, hg, hty⟩ := tab_g
  have h2 : laidMet Tryd.prog (("internal/strconv.uint64pow10", Lib.tabData .u64 Lib.pow10Tab) :: []) W := h.tail.tail
  exact Lib.tabIs_of_head hg hty Tryd.underlying186 Tryd.underlying173 tab_cells1 tab_cells20 h2

end

end Go.Proofs.YtpcbcodmocmilaaDoor
