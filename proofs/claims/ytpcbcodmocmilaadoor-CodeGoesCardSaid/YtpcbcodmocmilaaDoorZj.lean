/- CodeGoes: walk (printed by gen_zj.py). -/
import Derived.Test.YtpcbcodmocmilaaDoorZi
namespace Go.Proofs.YtpcbcodmocmilaaDoor
open Go.RowKit

/-- What the law asks of a query's code. -/
structure GoC (c : CodeD) : Prop where
  ne : 0 < c.ps.length
  sz : szC c ≤ 5000
  go : ∀ (i : Nat) (x : PathD), c.ps[i]? = some x → ∃ a b : Nat, x.fr = (a : Int) ∧ x.tt = (b : Int) ∧ a ≤ b ∧ b ≤ c.gs.length ∧ ∀ (k : Nat) (s : SegD), a ≤ k → k < b → c.gs[k]? = some s → ∃ f t : Nat, s.fr = (f : Int) ∧ s.tt = (t : Int) ∧ f < t ∧ t ≤ c.ss.length ∧ ∀ (j : Nat) (y : SelD), f ≤ j → j < t → c.ss[j]? = some y → y.kind = 4 → ∃ a m : Nat, y.at_ = (a : Int) ∧ GoF c i a m
theorem code_goc {S : List UInt8 → Prop} {p : PathT} (h : WfP S (WfN S 200) p) (hw : wtP (wtN 200) p ≤ 5000) : GoC (codeT p) := by
  obtain ⟨Wl, G, hl, hsz, h0⟩ := code_good h hw
  have hpos : 0 < Wl.length := (List.getElem?_eq_some_iff.1 h0).1
  refine ⟨by omega, by omega, fun i x hx => ?_⟩
  generalize codeT p = c at *
  have hi := (List.getElem?_eq_some_iff.1 hx).1
  obtain ⟨q, g0, s0, a0, b0, e, sp⟩ := G.spot i hi
  obtain rfl := Option.some.inj (hx.symm.trans sp.p)
  have hwq := G.wf q (List.mem_of_getElem? e)
  have hgl := sp.g.le
  rw [gsD_len] at hgl
  refine ⟨g0, g0 + q.segs.length, rfl, rfl, by omega, by omega, fun k s h1 h2 hs => ?_⟩
  have hsg : (gsD s0 q.segs)[k - g0]? = some s := by
    rw [← sp.g.get (by rw [gsD_len]; omega), show g0 + (k - g0) = k by omega]; exact hs
  obtain ⟨b1, b2, b3⟩ := gsD_bd q.segs s0 (fun s hs => (hwq s hs).1) s (List.mem_of_getElem? hsg)
  have hsl := sp.s.le
  rw [flD_len] at hsl
  refine ⟨s.fr.toNat, s.tt.toNat, by omega, by omega, by omega, by omega, fun j y h3 h4 hy hk => ?_⟩
  have hys : (flD 200 a0 b0 (selsOf q.segs)).1[j - s0]? = some y := by
    rw [← sp.s.get (by rw [flD_len]; omega), show s0 + (j - s0) = j by omega]; exact hy
  obtain ⟨e', a', b', F, f1, _⟩ := (flD_flt _ a0 b0 a0 b0 c.is Wl (sels_wf hwq) sp.a sp.w (Nat.le_refl _) (Nat.le_refl _)).1 y (List.mem_of_getElem? hys) hk
  have hln := insN_len _ e' F.wf a' b'
  have hlt := sp.lt
  have hwl := F.wait.le
  refine ⟨a', lenN 200 e', F.at_, ⟨fun k hk => ?_, ?_⟩⟩
  · obtain ⟨z, hz⟩ : ∃ z, (insN 200 a' b' e')[k]? = some z := ⟨_, List.getElem?_eq_getElem (by omega)⟩
    refine ⟨z, ?_, ?_⟩
    · rw [F.ins.get (by rw [List.length_append]; omega), List.getElem?_append_left (by omega)]; exact hz
    · rcases insN_ok _ e' F.wf a' b' k z hz with ⟨o, jj, e1, e2⟩ | ⟨o, ⟨jj, qq, e1, e2, e3⟩, _⟩ | o | ⟨o, e1, e2⟩
      · exact .inl ⟨o, by rw [e1]; omega, by rw [e1]; omega⟩
      · have := (List.getElem?_eq_some_iff.1 e2).1
        exact .inr (.inl ⟨o, by rw [e1]; omega, by rw [e1]; omega⟩)
      · exact .inr (.inr (.inl o))
      · rcases o with o | o
        · exact .inr (.inr (.inr (.inl ⟨o, e1, e2⟩)))
        · exact .inr (.inr (.inr (.inr ⟨o, e1, e2⟩)))
  · refine ⟨opD 5, ?_, rfl⟩
    rw [F.ins.get (by rw [List.length_append]; simp; omega), List.getElem?_append_right (by omega), hln, Nat.sub_self]; rfl
theorem aw_parse19 : parseT true (⟨#[36]⟩ : ByteArray).data.toList = .ok ⟨true, []⟩ := by kernel_rfl
theorem aw_code19 : codeT ⟨true, []⟩ = ⟨[⟨true, 0, 0⟩], [], [], []⟩ := by kernel_rfl
section
variable {P : Program} {S : World → Prop} {ops : Array Oper} {Q : Exit → Act → World → Prop} {md : Region.Mode} {fuel i : Nat} {listed : Array Bool} {is : List Nat} {dst : Option Tmp} {tt : TypeId} {pos : String} {af : Array Edge} {a : Act} {w : World}
/-- A guarded load that is wanted. -/
theorem y_ldcg {T : TypeId} (F : OneF P T) {gd : Nat × Bool} (x : Operand) (b o : Nat) (hx : a.eval x = .pointer (some ⟨b, o, none⟩)) (v : Value) (hS : ∀ w, S w → w.cell? ⟨b, o, none⟩ = some v) (hw : Region.wanted ⟨dst, .load T x, tt, pos, af, some gd⟩ (yielded ops a.tmps) = true := by rfl) : YieldsIf P ops S ⟨dst, .load T x, tt, pos, af, some gd⟩ v a :=
  .inl ⟨hw, fun w hw => by
    unfold execOp
    simp only [hx, Instr.loadAt, Instr.sureAddr, Sem.run_bind, Sem.run_pure, Result.andThen_ok, run_load1 F (hS w hw)]⟩
theorem y_ldG {T : TypeId} {n : Nat} {z : Array Value} (F : TyF P T n z) {gd : Nat × Bool} (x : Operand) (g : Nat) (hx : a.eval x = .pointer (some ⟨g, 0, none⟩)) (T' : TypeId) (cs : Array Value) (hS : ∀ w, S w → Blk w g T' cs) (hn : cs.size = n) (hw : Region.wanted ⟨dst, .load T x, tt, pos, af, some gd⟩ (yielded ops a.tmps) = true := by rfl) : YieldsIf P ops S ⟨dst, .load T x, tt, pos, af, some gd⟩ (.agg cs) a := by
  obtain ⟨d, hu, hd⟩ := F.u
  refine .inl ⟨hw, fun w hw' => ?_⟩
  unfold execOp
  simp only [hx, Instr.loadAt, Instr.sureAddr, Sem.run_bind, Sem.run_pure, Result.andThen_ok, run_loadVar_row w g T' T cs (0, 0) d (hS w hw') hu (by cases d <;> first | rfl | cases hd) (by rw [hn]; exact F.s)]
theorem y_no {o : Oper} (hw : Region.wanted o (yielded ops a.tmps) = false) : YieldsIf P ops S o undef a := .inr ⟨hw, rfl⟩
theorem rdy_callg {gd : Nat × Bool} {f : FuncId} {args : Array Value} {R : Ending → World → Prop} (hc : Calls P f args w R) {op : Op} (ho : ops[i]? = some ⟨dst, op, tt, pos, af, some gd⟩) (hw : Region.wanted ⟨dst, op, tt, pos, af, some gd⟩ (yielded ops a.tmps) = true) (hrun : (execOp a.eval ⟨dst, op, tt, pos, af, some gd⟩).run P w = .ok (.enter f args) w)
    (h : ∀ e w', R e w' → ∃ v, e = .returned v ∧ S w' ∧ wpAnyH P md ops Q S fuel (listed.setIfInBounds i true) (a.put dst v) w') (hs : AllReadyH P md ops Q S fuel listed a w is) : AllReadyH P md ops Q S fuel listed a w (i :: is) := by
  refine AllReadyH.cons ho (fun K hK => ?_) hs
  rw [if_pos hw]
  refine wp_of_call hrun (hc.mono fun e w' he => ?_)
  obtain ⟨v, h1, h2, h3⟩ := h e w' he
  exact ⟨v, h1, hK.out _ _ h2 fun _ => h3⟩
end

set_option maxRecDepth 100000 in
set_option maxHeartbeats 2000000 in
theorem awake19 (w : World) : Calls Tryd.prog 9 #[] w fun e w' => e = .returned (.bool true) ∧ Bel w.heap.size w w' := by
  have M := Lib.hid (Own.start [] w (fun _ => True) fun _ _ => trivial)
  have hQ := fun w => query_any ⟨#[36]⟩ w (by decide)
  unfold CQueryP at hQ
  rw [aw_parse19] at hQ
  simp only [aw_code19] at hQ
  have HP := Lib.hid hQ
  clear hQ
  go_enter Tryd.func9, Tryd.ntmps9
  go_upto_region 2 with (first | ((with_reducible refine g_al 38 1 ?_); refine l_al F_Code M.out ?_; clear M; intro g1 w' hg1 M) | ((with_reducible refine g_al 28 2 ?_); refine l_al F_Flt M.out ?_; clear M; intro g2 w' hg2 M) | ((with_reducible refine g_st 38 ?_); refine l_st F_Code rfl rfl M.out (by repeat constructor) (by exact rfl) (by exact rfl) (by exact rfl) ?_; clear M; intro w' M) | ((with_reducible refine g_st 28 ?_); refine l_st F_Flt rfl rfl M.out (by repeat constructor) (by exact rfl) (by exact rfl) (by exact rfl) ?_; clear M; intro w' M) | (go_at_call 10; (with_reducible refine (HP.out _).mono ?_); rintro e w' ⟨A1, A2, A3, A4, k1, k2, k3, k4, rfl, hcr, ⟨f1, f2, f3, f4⟩, hq, hb⟩; have HF := Lib.hid (show FrA w A1 ∧ FrA w A2 ∧ FrA w A3 ∧ FrA w A4 from ⟨f1.le M.out.size, f2.le M.out.size, f3.le M.out.size, f4.le M.out.size⟩); have Mn := M.out.addC hb hcr f1 f2 f3 f4; have HQQ := Lib.hid hq; replace M := Lib.hid Mn; clear Mn hb hcr f1 f2 f3 f4 hq))
  obtain ⟨b1, o1, hA1, hc1⟩ := rdd_at pathC 3 (fun _ => rfl) (fun y h => CRd.p (And.right h)) M.out.now (fun a e => (HF.out.1 a e).2) (i := 0) rfl
  subst hA1
  have HZ := Lib.hid (hc1 _ M.out.now 0 _ rfl)
  clear hc1
  go_wp2_with (first | ((with_reducible refine g_ld 26 ?_); refine l_ld1 O_errno rfl M.out (by repeat constructor) (by exact rfl) ?_) | ((with_reducible refine g_ld 33 ?_); refine l_ld1 O_sCPath rfl M.out (by repeat constructor) (by exact rfl) ?_) | ((with_reducible refine g_ldg 33 ?_); refine l_ld1g O_sCPath rfl rfl M.out (by repeat constructor) (by exact rfl) ?_) | ((with_reducible refine g_ldg 4 ?_); refine l_ldcg O_bool rfl rfl HZ.out ?_))
  go_ret
  exact ⟨by simp, M.out.bel0⟩
set_option maxRecDepth 100000 in
set_option maxHeartbeats 2000000 in
theorem cg_long (s : ByteArray) (w : World) (hlen : ¬ s.size ≤ 400) : Calls Tryd.prog 4 #[.string s] w fun e w' => e = .returned (.bool true) ∧ Bel w.heap.size w w' := by
  have M := Lib.hid (Own.start [] w (fun _ => True) fun _ _ => trivial)
  have hl : (400 : Int) < (s.size : Int) := by omega
  go_enter Tryd.func4, Tryd.ntmps4
  go_wp2_with (go_at_call 9; (with_reducible refine (awake19 _).mono ?_); rintro e w' ⟨rfl, hb⟩; replace M := Lib.hid (M.out.bel hb); clear hb)
  (go_ret; exact ⟨rfl, M.out.bel0⟩)
set_option maxRecDepth 100000 in
set_option maxHeartbeats 2000000 in
theorem cg_err (s : ByteArray) (w : World) (hlen : s.size ≤ 400) (x a : Int) (hp : parseT true s.data.toList = .error (x, a)) : Calls Tryd.prog 4 #[.string s] w fun e w' => e = .returned (.bool true) ∧ Bel w.heap.size w w' := by
  have M := Lib.hid (Own.start [] w (fun _ => True) fun _ _ => trivial)
  have hl : ¬ (400 : Int) < (s.size : Int) := by omega
  have hQ := fun w => query_any s w (by omega)
  unfold CQueryP at hQ
  rw [hp] at hQ
  have HP := Lib.hid hQ
  have hxb : (x != 0) = true := bne_iff_ne.2 (err_ne hp)
  clear hQ hp
  go_enter Tryd.func4, Tryd.ntmps4
  go_wp2_with (first | ((with_reducible refine g_al 38 3 ?_); refine l_al F_Code M.out ?_; clear M; intro g3 w' hg3 M) | ((with_reducible refine g_al 28 4 ?_); refine l_al F_Flt M.out ?_; clear M; intro g4 w' hg4 M) | ((with_reducible refine g_st 38 ?_); refine l_st F_Code rfl rfl M.out (by repeat constructor) (by exact rfl) (by exact rfl) (by exact rfl) ?_; clear M; intro w' M) | ((with_reducible refine g_st 28 ?_); refine l_st F_Flt rfl rfl M.out (by repeat constructor) (by exact rfl) (by exact rfl) (by exact rfl) ?_; clear M; intro w' M) | ((with_reducible refine g_ld 26 ?_); refine l_ld1 O_errno rfl M.out (by repeat constructor) (by exact rfl) ?_) | (go_at_call 9; (with_reducible refine (awake19 _).mono ?_); rintro e w' ⟨rfl, hb⟩; replace M := Lib.hid (M.out.bel hb); clear hb) | ((with_reducible refine g_ld 33 ?_); refine l_ld1 O_sCPath rfl M.out (by repeat constructor) (by exact rfl) ?_) | (go_at_call 10; (with_reducible refine (HP.out _).mono ?_); rintro e w' ⟨rfl, hb⟩; replace M := Lib.hid (M.out.bel hb); clear hb))
  go_ret
  exact ⟨by simp, M.out.bel0⟩
set_option maxRecDepth 100000 in
set_option maxHeartbeats 2000000 in
theorem cg_ok (s : ByteArray) (w : World) (hlen : s.size ≤ 400) (p : PathT) (hp : parseT true s.data.toList = .ok p) : Calls Tryd.prog 4 #[.string s] w fun e w' => e = .returned (.bool true) ∧ Bel w.heap.size w w' := by
  have M := Lib.hid (Own.start [] w (fun _ => True) fun _ _ => trivial)
  have hl : ¬ (400 : Int) < (s.size : Int) := by omega
  have hQ := fun w => query_any s w (by omega)
  unfold CQueryP at hQ
  rw [hp] at hQ
  simp only at hQ
  have HP := Lib.hid hQ
  have hwf := parse_wf hp
  rw [len_toList] at hwf
  have HGO := Lib.hid (code_goc hwf.1 (by omega))
  obtain ⟨c, hc⟩ : ∃ c, codeT p = c := ⟨_, rfl⟩
  rw [hc] at HP HGO
  clear hQ hp hwf hc
  have hsz := HGO.out.sz
  unfold szC at hsz
  have hne := HGO.out.ne
  go_enter Tryd.func4, Tryd.ntmps4
  go_upto_region 6 with (first | ((with_reducible refine g_al 38 3 ?_); refine l_al F_Code M.out ?_; clear M; intro g3 w' hg3 M) | ((with_reducible refine g_al 28 4 ?_); refine l_al F_Flt M.out ?_; clear M; intro g4 w' hg4 M) | ((with_reducible refine g_st 38 ?_); refine l_st F_Code rfl rfl M.out (by repeat constructor) (by exact rfl) (by exact rfl) (by exact rfl) ?_; clear M; intro w' M) | ((with_reducible refine g_st 28 ?_); refine l_st F_Flt rfl rfl M.out (by repeat constructor) (by exact rfl) (by exact rfl) (by exact rfl) ?_; clear M; intro w' M) | ((with_reducible refine g_ld 26 ?_); refine l_ld1 O_errno rfl M.out (by repeat constructor) (by exact rfl) ?_) | (go_at_call 9; (with_reducible refine (awake19 _).mono ?_); rintro e w' ⟨rfl, hb⟩; replace M := Lib.hid (M.out.bel hb); clear hb) | (go_at_call 10; (with_reducible refine (HP.out _).mono ?_); rintro e w' ⟨A1, A2, A3, A4, k1, k2, k3, k4, rfl, hcr, ⟨f1, f2, f3, f4⟩, hq, hb⟩; have HF := Lib.hid (show FrA w A1 ∧ FrA w A2 ∧ FrA w A3 ∧ FrA w A4 from ⟨f1.le M.out.size, f2.le M.out.size, f3.le M.out.size, f4.le M.out.size⟩); have Mn := M.out.addC hb hcr f1 f2 f3 f4; have HQQ := Lib.hid hq; replace M := Lib.hid Mn; clear Mn hb hcr f1 f2 f3 f4 hq))
  replace M := Lib.hid (M.out.imp (J' := fun y => CRd y c A1 A2 A3 A4) fun y h => h.2)
  go_wp2
  go_loopg [5] c.ps.length (fun gk kv wr => ∃ i : Nat, gk = c.ps.length - i ∧ kv = .int .i64 (i : Int) ∧ Hid (i ≤ c.ps.length) ∧ Hid (Own [] w wr ([(g4, 28, #[.int .i64 0, .int .i64 0]), (g3, 38, #[.slice A1 c.ps.length k1, .slice A2 c.gs.length k2, .slice A3 c.ss.length k3, .slice A4 c.is.length k4])]) [] (fun y => CRd y c A1 A2 A3 A4)))
  case atStart => exact ⟨0, rfl, rfl, Lib.hid (Nat.zero_le _), M⟩
  case round =>
    clear M
    obtain ⟨i, hgk, rfl, HI, M⟩ := hrel
    have HG1 := Lib.hid hgk
    have hib := HI.out
    clear hgk
    by_cases hil : i < c.ps.length
    · have hii : (i : Int) < (c.ps.length : Int) := by omega
      obtain ⟨x, hx⟩ : ∃ x, c.ps[i]? = some x := ⟨_, List.getElem?_eq_getElem hil⟩
      obtain ⟨fa, tq, hfa, htb, hab, hbl, hgo⟩ := HGO.out.go i x hx
      have HGO2 := Lib.hid hgo
      obtain ⟨b1, o1, hA1, hc1⟩ := rdd_at pathC 3 (fun _ => rfl) (fun y h => CRd.p h) M.out.now (fun a e => (HF.out.1 a e).2) hx
      subst hA1
      obtain ⟨pa, hpa⟩ : ∃ pa, x.abs = pa := ⟨_, rfl⟩
      have HR1 := Lib.hid (show ∀ y, CRd y c (some ⟨b1, o1, none⟩) A2 A3 A4 → y.rangeAt b1 (o1 + i * 3) [.bool pa, .int .i64 (fa : Int), .int .i64 (tq : Int)] from fun y h j u hu => hc1 y h j u (by rw [show pathC x = [.bool pa, .int .i64 (fa : Int), .int .i64 (tq : Int)] from by rw [← hpa, ← hfa, ← htb]; rfl]; exact hu))
      clear hc1 hpa hfa htb hgo hx
      have h60 : ¬ (fa : Int) < 0 := by omega
      have h61 : ¬ (tq : Int) < (fa : Int) := by omega
      have h62 : ¬ (c.gs.length : Int) < (tq : Int) := by omega
      go_upto_region 13 with (first | ((with_reducible refine g_ld 33 ?_); refine l_ld1 O_sCPath rfl M.out (by repeat constructor) (by exact rfl) ?_) | ((with_reducible refine g_ld 34 ?_); refine l_ld1 O_sCSeg rfl M.out (by repeat constructor) (by exact rfl) ?_) | ((with_reducible refine g_ldg 34 ?_); refine l_ld1g O_sCSeg rfl rfl M.out (by repeat constructor) (by exact rfl) ?_) | ((with_reducible refine g_ld 3 ?_); refine l_ld1 O_int rfl M.out (by repeat constructor) (by exact rfl) ?_) | ((with_reducible refine g_ldg 3 ?_); refine l_ld1g O_int rfl rfl M.out (by repeat constructor) (by exact rfl) ?_) | ((with_reducible refine g_ld 42 ?_); refine l_ldf F_CPath rfl (HR1.out _ M.out.now) rfl ?_) | ((with_reducible refine g_al 42 6 ?_); refine l_al F_CPath M.out ?_; clear M; intro g6 w' hg6 M) | ((with_reducible refine g_st 42 ?_); refine l_st F_CPath rfl rfl M.out (by repeat constructor) (by exact rfl) (by exact rfl) (by exact rfl) ?_; clear M; intro w' M))
      go_wp2
      go_loopg [7] (tq - fa) (fun gk kv wr => ∃ k : Nat, gk = tq - k ∧ kv = .int .i64 (k : Int) ∧ Hid (fa ≤ k ∧ k ≤ tq) ∧ Hid (Own [] w wr ((g6, 42, #[.bool pa, .int .i64 (fa : Int), .int .i64 (tq : Int)]) :: [(g4, 28, #[.int .i64 0, .int .i64 0]), (g3, 38, #[.slice (some ⟨b1, o1, none⟩) c.ps.length k1, .slice A2 c.gs.length k2, .slice A3 c.ss.length k3, .slice A4 c.is.length k4])]) [] (fun y => CRd y c (some ⟨b1, o1, none⟩) A2 A3 A4)))
      case atStart => exact ⟨fa, rfl, rfl, Lib.hid ⟨Nat.le_refl _, hab⟩, M⟩
      case round =>
        clear M
        obtain ⟨k, hgk, rfl, HKB, M⟩ := hrel
        have HG2 := Lib.hid hgk
        obtain ⟨hk1, hk2⟩ := HKB.out
        clear hgk
        by_cases hkl : k < tq
        · have hki : (k : Int) < (tq : Int) := by omega
          have hkg : (k : Int) < (c.gs.length : Int) := by omega
          obtain ⟨sx, hsx⟩ : ∃ sx, c.gs[k]? = some sx := ⟨_, List.getElem?_eq_getElem (by omega)⟩
          obtain ⟨sf, st, hsf, hst, hft, htl, hgo⟩ := HGO2.out k sx hk1 hkl hsx
          have HGO3 := Lib.hid hgo
          obtain ⟨b2, o2, hA2, hc2⟩ := rdd_at segC 3 (fun _ => rfl) (fun y h => CRd.g h) M.out.now (fun a e => (HF.out.2.1 a e).2) hsx
          subst hA2
          obtain ⟨sd, hsd⟩ : ∃ sd, sx.deep = sd := ⟨_, rfl⟩
          have HR2 := Lib.hid (show ∀ y, CRd y c (some ⟨b1, o1, none⟩) (some ⟨b2, o2, none⟩) A3 A4 → y.rangeAt b2 (o2 + k * 3) [.bool sd, .int .i64 (sf : Int), .int .i64 (st : Int)] from fun y h j u hu => hc2 y h j u (by rw [show segC sx = [.bool sd, .int .i64 (sf : Int), .int .i64 (st : Int)] from by rw [← hsd, ← hsf, ← hst]; rfl]; exact hu))
          clear hc2 hsd hsf hst hgo hsx
          have h70 : ¬ (sf : Int) < 0 := by omega
          have h71 : ¬ (st : Int) ≤ (sf : Int) := by omega
          have h72 : ¬ (c.ss.length : Int) < (st : Int) := by omega
          go_upto_region 19 with (first | ((with_reducible refine g_ld 34 ?_); refine l_ld1 O_sCSeg rfl M.out (by repeat constructor) (by exact rfl) ?_) | ((with_reducible refine g_ld 35 ?_); refine l_ld1 O_sCSel rfl M.out (by repeat constructor) (by exact rfl) ?_) | ((with_reducible refine g_ldg 35 ?_); refine l_ld1g O_sCSel rfl rfl M.out (by repeat constructor) (by exact rfl) ?_) | ((with_reducible refine g_ld 3 ?_); refine l_ld1 O_int rfl M.out (by repeat constructor) (by exact rfl) ?_) | ((with_reducible refine g_ldg 3 ?_); refine l_ld1g O_int rfl rfl M.out (by repeat constructor) (by exact rfl) ?_) | ((with_reducible refine g_ld 44 ?_); refine l_ldf F_CSeg rfl (HR2.out _ M.out.now) rfl ?_) | ((with_reducible refine g_al 44 8 ?_); refine l_al F_CSeg M.out ?_; clear M; intro g8 w' hg8 M) | ((with_reducible refine g_st 44 ?_); refine l_st F_CSeg rfl rfl M.out (by repeat constructor) (by exact rfl) (by exact rfl) (by exact rfl) ?_; clear M; intro w' M))
          go_wp2
          go_loopg [9] (st - sf) (fun gk kv wr => ∃ j : Nat, gk = st - j ∧ kv = .int .i64 (j : Int) ∧ Hid (sf ≤ j ∧ j ≤ st) ∧ Hid (Own [] w wr ((g8, 44, #[.bool sd, .int .i64 (sf : Int), .int .i64 (st : Int)]) :: (g6, 42, #[.bool pa, .int .i64 (fa : Int), .int .i64 (tq : Int)]) :: [(g4, 28, #[.int .i64 0, .int .i64 0]), (g3, 38, #[.slice (some ⟨b1, o1, none⟩) c.ps.length k1, .slice (some ⟨b2, o2, none⟩) c.gs.length k2, .slice A3 c.ss.length k3, .slice A4 c.is.length k4])]) [] (fun y => CRd y c (some ⟨b1, o1, none⟩) (some ⟨b2, o2, none⟩) A3 A4)))
          case atStart => exact ⟨sf, rfl, rfl, Lib.hid ⟨Nat.le_refl _, by omega⟩, M⟩
          case round =>
            clear M
            obtain ⟨j, hgk, rfl, HJB, M⟩ := hrel
            have HG3 := Lib.hid hgk
            obtain ⟨hj1, hj2⟩ := HJB.out
            clear hgk
            by_cases hjl : j < st
            · have hji : (j : Int) < (st : Int) := by omega
              have hjs : (j : Int) < (c.ss.length : Int) := by omega
              obtain ⟨y, hy⟩ : ∃ y, c.ss[j]? = some y := ⟨_, List.getElem?_eq_getElem (by omega)⟩
              obtain ⟨b3, o3, hA3, hc3⟩ := rdd_at selC 8 (fun _ => rfl) (fun y h => CRd.s h) M.out.now (fun a e => (HF.out.2.2.1 a e).2) hy
              subst hA3
              obtain ⟨kd, hkd⟩ : ∃ kd, y.kind = kd := ⟨_, rfl⟩
              have HK0 := Lib.hid (show ∀ z, CRd z c (some ⟨b1, o1, none⟩) (some ⟨b2, o2, none⟩) (some ⟨b3, o3, none⟩) A4 → z.cell? ⟨b3, o3 + j * 8, none⟩ = some (.int .i64 kd) from fun z h => by rw [← hkd]; simpa using hc3 z h 0 _ rfl)
              by_cases hk4 : kd = 4
              · obtain ⟨fa2, m, hat, hgf⟩ := HGO3.out j y hj1 hjl hy (by rw [hkd, hk4])
                have HK7 := Lib.hid (show ∀ z, CRd z c (some ⟨b1, o1, none⟩) (some ⟨b2, o2, none⟩) (some ⟨b3, o3, none⟩) A4 → z.cell? ⟨b3, o3 + j * 8 + 7, none⟩ = some (.int .i64 (fa2 : Int)) from fun z h => by
                  have := hc3 z h 7 (.int .i64 y.at_) rfl
                  rw [hat] at this
                  exact this)
                have HFI := Lib.hid (fun (wz : World) (h : CRd wz c (some ⟨b1, o1, none⟩) (some ⟨b2, o2, none⟩) (some ⟨b3, o3, none⟩) A4) => filter_any (some ⟨b1, o1, none⟩) (some ⟨b2, o2, none⟩) (some ⟨b3, o3, none⟩) A4 k1 k2 k3 k4 c i fa2 m wz h (fun a e => (HF.out.2.2.2 a e).2) hgf (by omega))
                have hk4e : (kd == 4) = true := beq_iff_eq.2 hk4
                clear hc3 hkd hat hgf hy hk4
                go_upto_region 21 with (first | ((with_reducible refine g_ld 3 ?_); refine l_ld1 O_int rfl M.out (by repeat constructor) (by exact rfl) ?_))
                replace M := Lib.hid M.out.drew
                refine tb (fun y => CRd y c (some ⟨b1, o1, none⟩) (some ⟨b2, o2, none⟩) (some ⟨b3, o3, none⟩) A4 ∧ Blk y g3 38 #[.slice (some ⟨b1, o1, none⟩) c.ps.length k1, .slice (some ⟨b2, o2, none⟩) c.gs.length k2, .slice (some ⟨b3, o3, none⟩) c.ss.length k3, .slice A4 c.is.length k4]) ⟨M.out.now, M.out.blk (g3, _, _) (by repeat constructor)⟩ ?_
                refine tkp 0 rfl ⟨M.out.now, M.out.blk (g3, _, _) (by repeat constructor)⟩ ?_
                refine tk 1 rfl ⟨M.out.now, M.out.blk (g3, _, _) (by repeat constructor)⟩ (y_ld1 O_sCSel _ g3 2 rfl _ _ (fun y h => h.2) _ rfl) ?_
                refine tkp 2 rfl ⟨M.out.now, M.out.blk (g3, _, _) (by repeat constructor)⟩ ?_
                refine tkp 3 rfl ⟨M.out.now, M.out.blk (g3, _, _) (by repeat constructor)⟩ ?_
                refine tkp 4 rfl ⟨M.out.now, M.out.blk (g3, _, _) (by repeat constructor)⟩ ?_
                refine tk 5 rfl ⟨M.out.now, M.out.blk (g3, _, _) (by repeat constructor)⟩ (y_ldc O_int _ _ _ rfl (.int .i64 kd) (fun y h => HK0.out y h.1)) ?_
                refine tkp 6 rfl ⟨M.out.now, M.out.blk (g3, _, _) (by repeat constructor)⟩ ?_
                refine tkp 7 rfl ⟨M.out.now, M.out.blk (g3, _, _) (by repeat constructor)⟩ ?_
                refine tk 8 rfl ⟨M.out.now, M.out.blk (g3, _, _) (by repeat constructor)⟩ (y_ldG F_Code _ g3 rfl _ _ (fun y h => h.2) rfl) ?_
                refine tkp 9 rfl ⟨M.out.now, M.out.blk (g3, _, _) (by repeat constructor)⟩ ?_
                refine tk 10 rfl ⟨M.out.now, M.out.blk (g3, _, _) (by repeat constructor)⟩ (y_ldcg O_sCSel _ g3 2 rfl _ (fun y h => ((h.2).cell 2).trans rfl)) ?_
                refine tkp 11 rfl ⟨M.out.now, M.out.blk (g3, _, _) (by repeat constructor)⟩ ?_
                refine tkp 12 rfl ⟨M.out.now, M.out.blk (g3, _, _) (by repeat constructor)⟩ ?_
                refine tkp 13 rfl ⟨M.out.now, M.out.blk (g3, _, _) (by repeat constructor)⟩ ?_
                refine tk 14 rfl ⟨M.out.now, M.out.blk (g3, _, _) (by repeat constructor)⟩ (y_ldcg O_int _ _ _ rfl (.int .i64 (fa2 : Int)) (fun y h => HK7.out y h.1)) ?_
                refine tkp 15 rfl ⟨M.out.now, M.out.blk (g3, _, _) (by repeat constructor)⟩ ?_
                refine tr [16] ?_
                refine rdy_callg (HFI.out _ M.out.now) (i := 16) (op := .call _) rfl rfl (by go_simp) ?_ ?_
                · rintro e_ w' ⟨rfl, hb⟩; replace M := Lib.hid (M.out.bel hb); clear hb; refine ⟨_, rfl, ?_⟩; refine ⟨⟨M.out.now, M.out.blk (g3, _, _) (by repeat constructor)⟩, tn ?_⟩
                  refine tkp 17 rfl ⟨M.out.now, M.out.blk (g3, _, _) (by repeat constructor)⟩ ?_
                  refine tkp 18 rfl ⟨M.out.now, M.out.blk (g3, _, _) (by repeat constructor)⟩ ?_
                  refine te ?_
                  go_wp2
                  go_roundg (st - (j + 1))
                  case measure => rw [HG3.out]; omega
                  case rel => exact ⟨j + 1, rfl, by first | go_num | simp, Lib.hid (by omega), M⟩
                exact .nil
              · have hk4e : (kd == 4) = false := beq_eq_false_iff_ne.2 hk4
                clear hc3 hkd hy hk4
                go_upto_region 21 with (first | ((with_reducible refine g_ld 3 ?_); refine l_ld1 O_int rfl M.out (by repeat constructor) (by exact rfl) ?_))
                replace M := Lib.hid M.out.drew
                refine tb (fun y => CRd y c (some ⟨b1, o1, none⟩) (some ⟨b2, o2, none⟩) (some ⟨b3, o3, none⟩) A4 ∧ Blk y g3 38 #[.slice (some ⟨b1, o1, none⟩) c.ps.length k1, .slice (some ⟨b2, o2, none⟩) c.gs.length k2, .slice (some ⟨b3, o3, none⟩) c.ss.length k3, .slice A4 c.is.length k4]) ⟨M.out.now, M.out.blk (g3, _, _) (by repeat constructor)⟩ ?_
                refine tkp 0 rfl ⟨M.out.now, M.out.blk (g3, _, _) (by repeat constructor)⟩ ?_
                refine tk 1 rfl ⟨M.out.now, M.out.blk (g3, _, _) (by repeat constructor)⟩ (y_ld1 O_sCSel _ g3 2 rfl _ _ (fun y h => h.2) _ rfl) ?_
                refine tkp 2 rfl ⟨M.out.now, M.out.blk (g3, _, _) (by repeat constructor)⟩ ?_
                refine tkp 3 rfl ⟨M.out.now, M.out.blk (g3, _, _) (by repeat constructor)⟩ ?_
                refine tkp 4 rfl ⟨M.out.now, M.out.blk (g3, _, _) (by repeat constructor)⟩ ?_
                refine tk 5 rfl ⟨M.out.now, M.out.blk (g3, _, _) (by repeat constructor)⟩ (y_ldc O_int _ _ _ rfl (.int .i64 kd) (fun y h => HK0.out y h.1)) ?_
                refine tkp 6 rfl ⟨M.out.now, M.out.blk (g3, _, _) (by repeat constructor)⟩ ?_
                refine tkp 7 rfl ⟨M.out.now, M.out.blk (g3, _, _) (by repeat constructor)⟩ ?_
                refine tk 8 rfl ⟨M.out.now, M.out.blk (g3, _, _) (by repeat constructor)⟩ (y_no rfl) ?_
                refine tk 9 rfl ⟨M.out.now, M.out.blk (g3, _, _) (by repeat constructor)⟩ (y_no rfl) ?_
                refine tk 10 rfl ⟨M.out.now, M.out.blk (g3, _, _) (by repeat constructor)⟩ (y_no rfl) ?_
                refine tk 11 rfl ⟨M.out.now, M.out.blk (g3, _, _) (by repeat constructor)⟩ (y_no rfl) ?_
                refine tk 12 rfl ⟨M.out.now, M.out.blk (g3, _, _) (by repeat constructor)⟩ (y_no rfl) ?_
                refine tk 13 rfl ⟨M.out.now, M.out.blk (g3, _, _) (by repeat constructor)⟩ (y_no rfl) ?_
                refine tk 14 rfl ⟨M.out.now, M.out.blk (g3, _, _) (by repeat constructor)⟩ (y_no rfl) ?_
                refine tk 15 rfl ⟨M.out.now, M.out.blk (g3, _, _) (by repeat constructor)⟩ (y_no rfl) ?_
                refine tk 16 rfl ⟨M.out.now, M.out.blk (g3, _, _) (by repeat constructor)⟩ (y_no rfl) ?_
                refine tk 17 rfl ⟨M.out.now, M.out.blk (g3, _, _) (by repeat constructor)⟩ (y_no rfl) ?_
                refine tkp 18 rfl ⟨M.out.now, M.out.blk (g3, _, _) (by repeat constructor)⟩ ?_
                refine te ?_
                go_wp2
                go_roundg (st - (j + 1))
                case measure => rw [HG3.out]; omega
                case rel => exact ⟨j + 1, rfl, by first | go_num | simp, Lib.hid (by omega), M⟩
            · have hjn : ¬ (j : Int) < (st : Int) := by omega
              go_wp2_with (first | ((with_reducible refine g_ld 3 ?_); refine l_ld1 O_int rfl M.out (by repeat constructor) (by exact rfl) ?_))
              go_roundg (tq - (k + 1))
              case measure => rw [HG2.out]; omega
              case rel => exact ⟨k + 1, rfl, by first | go_num | simp, Lib.hid (by omega), Lib.hid M.out.drop⟩
        · have hkn : ¬ (k : Int) < (tq : Int) := by omega
          go_wp2_with (first | ((with_reducible refine g_ld 3 ?_); refine l_ld1 O_int rfl M.out (by repeat constructor) (by exact rfl) ?_))
          go_roundg (c.ps.length - (i + 1))
          case measure => rw [HG1.out]; omega
          case rel => exact ⟨i + 1, rfl, by first | go_num | simp, Lib.hid (by omega), Lib.hid M.out.drop⟩
    · have hin : ¬ (i : Int) < (c.ps.length : Int) := by omega
      have hn0 : (0 : Int) < (c.ps.length : Int) := by omega
      go_wp2_with (first | ((with_reducible refine g_ld 33 ?_); refine l_ld1 O_sCPath rfl M.out (by repeat constructor) (by exact rfl) ?_))
      go_ret
      exact ⟨by first | rfl | (simp; done) | (simp; omega), M.out.bel0⟩
theorem cg_any (s : ByteArray) (w : World) (_ : s.size ≤ maxLen) : Calls Tryd.prog 4 #[.string s] w fun e w' => e = .returned (.bool true) ∧ Bel w.heap.size w w' := by
  by_cases hlen : s.size ≤ 400
  · cases hp : parseT true s.data.toList with
    | error e => exact cg_err s w hlen e.1 e.2 hp
    | ok p => exact cg_ok s w hlen p hp
  · exact cg_long s w hlen


end Go.Proofs.YtpcbcodmocmilaaDoor
