/- G49: Cq, RowA joined. -/
import Derived.ProofKit
import Derived.OpenShut
import Derived.ShutString
import Derived.ChangeSame
import Derived.Test.YtpcbcodmocmilaaCp
import Derived.Test.YtpcbcodmocmilaaA0
namespace Go.Proofs.Ytpcbcodmocmilaa
open Go.RowKit
/- VerifyQueries: walk (printed by gen_cq.py). -/
section
open Go.RowKit

section
variable {P : Program} {w : World} {ops : Array Oper} {rest : List Oper} {a : Act} {Q : Exit → Act → World → Prop} {dst : Option Tmp} {tt : TypeId} {pos : String} {af : Array Edge}
/-- A cell that is known by a fact; a guarded load. -/
theorem l_ldcg {T : TypeId} (F : OneF P T) {gd : Nat × Bool} {x : Operand} {b o : Nat} {v : Value} (hw : Region.wanted ⟨dst, .load T x, tt, pos, af, some gd⟩ (yielded ops a.tmps) = true) (hx : a.eval x = .pointer (some ⟨b, o, none⟩)) (hc : w.cell? ⟨b, o, none⟩ = some v)
    (h : wpList P ops Q rest (a.put dst v) w) : wpList P ops Q (⟨dst, .load T x, tt, pos, af, some gd⟩ :: rest) a w :=
  wpList_step fun _ hK => by rw [if_pos hw]; exact o_ld1 F hx hc (hK _ _ h)
end

def sgK (c : CodeD) (a k : Nat) : Bool := ((c.gs.drop a).take k).all (sglSeg c)
theorem sgK_step {c : CodeD} {a k : Nat} {s : SegD} (h : c.gs[a + k]? = some s) : sgK c a (k + 1) = (sgK c a k && sglSeg c s) := by
  unfold sgK
  have h1 : (c.gs.drop a).take (k + 1) = (c.gs.drop a).take k ++ [s] := by
    rw [List.take_add_one, List.getElem?_drop, h]; rfl
  rw [h1, List.all_append]; simp

set_option maxRecDepth 100000 in
set_option maxHeartbeats 2000000 in
theorem vq_long (s : ByteArray) (w : World) (hlen : ¬ s.size ≤ 400) : Calls Try.prog 4 #[.string s] w fun e w' => e = .returned (.bool true) ∧ Bel w.heap.size w w' := by
  have M := Lib.hid (Own.start [] w (fun _ => True) fun _ _ => trivial)
  have hl : (400 : Int) < (s.size : Int) := by omega
  go_enter Try.func4, Try.ntmps4
  go_wp2_with (go_at_call 5; (with_reducible refine (awake20 _).mono ?_); rintro e w' ⟨rfl, hb⟩; replace M := Lib.hid (M.out.bel hb); clear hb)
  go_ret
  exact ⟨rfl, M.out.bel0⟩
set_option maxRecDepth 100000 in
set_option maxHeartbeats 2000000 in
theorem vq_err (s : ByteArray) (w : World) (hlen : s.size ≤ 400) (x a : Int) (hp : parseT false s.data.toList = .error (x, a)) : Calls Try.prog 4 #[.string s] w fun e w' => e = .returned (.bool true) ∧ Bel w.heap.size w w' := by
  have M := Lib.hid (Own.start [] w (fun _ => True) fun _ _ => trivial)
  have hl : ¬ (400 : Int) < (s.size : Int) := by omega
  have hQ := fun w => rquery_any s w (by omega)
  unfold RQueryP at hQ
  rw [hp] at hQ
  have HP := Lib.hid hQ
  have hxb : (x != 0) = true := bne_iff_ne.2 (err_ne hp)
  clear hQ hp
  go_enter Try.func4, Try.ntmps4
  go_wp2_with (first | ((with_reducible refine g_al 29 3 ?_); refine l_al F_Code M.out ?_; clear M; intro g3 w' hg3 M) | ((with_reducible refine g_al 32 4 ?_); refine l_al F_Flt M.out ?_; clear M; intro g4 w' hg4 M) | ((with_reducible refine g_st 29 ?_); refine l_st F_Code rfl rfl M.out (by repeat constructor) (by exact rfl) (by exact rfl) (by exact rfl) ?_; clear M; intro w' M) | ((with_reducible refine g_st 32 ?_); refine l_st F_Flt rfl rfl M.out (by repeat constructor) (by exact rfl) (by exact rfl) (by exact rfl) ?_; clear M; intro w' M) | ((with_reducible refine g_ld 30 ?_); refine l_ld1 O_errno rfl M.out (by repeat constructor) (by exact rfl) ?_) | ((with_reducible refine g_ld 29 ?_); refine l_ld F_Code rfl M.out (by repeat constructor) (by exact rfl) ?_) | (go_at_call 5; (with_reducible refine (awake20 _).mono ?_); rintro e w' ⟨rfl, hb⟩; replace M := Lib.hid (M.out.bel hb); clear hb) | (go_at_call 6; (with_reducible refine (HP.out _).mono ?_); rintro e w' ⟨rfl, hb⟩; replace M := Lib.hid (M.out.bel hb); clear hb) | (go_at_call 7; (with_reducible refine (sound_nil _).mono ?_); rintro e w' ⟨rfl, hb⟩; replace M := Lib.hid (M.out.bel hb); clear hb))
  go_ret
  exact ⟨rfl, M.out.bel0⟩
theorem Own.addC {X : List Nat} {w0 w w' : World} {L : List BlkE} {rs : List RowE} {J : World → Prop} {A1 A2 A3 A4 : Option Addr} {c : CodeD} (M : Own X w0 w L rs J) (hb : Bel w.heap.size w w') (h : CRd w' c A1 A2 A3 A4) (f1 : FrA w A1) (f2 : FrA w A2) (f3 : FrA w A3) (f4 : FrA w A4) : Own X w0 w' L rs (fun y => J y ∧ CRd y c A1 A2 A3 A4) :=
  (M.bel hb).add fun _ hy =>
    have key : ∀ {k n : Nat} {A : Option Addr} {xs : List Value}, Rdd w' k A n xs → FrA w A → Rdd _ k A n xs := fun h hf => h.kept hy fun a e _ hm => Nat.lt_irrefl _ (Nat.lt_of_lt_of_le (M.ex_lt hm) (hf a e).1)
    ⟨key h.p f1, key h.g f2, key h.s f3, key h.i f4⟩
/-- A row that has an element lies in a block. -/
theorem rdd_at {α : Type} (f : α → List Value) (k : Nat) (hk : ∀ x, (f x).length = k) {J : World → Prop} {w : World} {A : Option Addr} {l : List α} {i : Nat} {x : α} (hJ : ∀ y, J y → Rdd y k A l.length (l.flatMap f)) (h : J w) (hs : ∀ a, A = some a → a.spot = none) (hx : l[i]? = some x) :
    ∃ b off, A = some ⟨b, off, none⟩ ∧ ∀ y, J y → ∀ j u, (f x)[j]? = some u → y.cell? ⟨b, off + i * k + j, none⟩ = some u := by
  have hne : ¬ l = [] := by intro e; rw [e] at hx; simp at hx
  obtain ⟨b, off, e, _, _⟩ := (rdd_cells f k hk (hJ w h) hs).resolve_left hne
  refine ⟨b, off, e, fun y hy j u hu => ?_⟩
  obtain ⟨b', off', e', _, hc⟩ := (rdd_cells f k hk (hJ y hy) hs).resolve_left hne
  rw [e] at e'
  cases e'
  exact hc i x hx j u hu

set_option maxRecDepth 100000 in
set_option maxHeartbeats 2000000 in
theorem vq_ok (s : ByteArray) (w : World) (hlen : s.size ≤ 400) (p : PathT) (hp : parseT false s.data.toList = .ok p) : Calls Try.prog 4 #[.string s] w fun e w' => e = .returned (.bool true) ∧ Bel w.heap.size w w' := by
  have M := Lib.hid (Own.start [] w (fun _ => True) fun _ _ => trivial)
  have hl : ¬ (400 : Int) < (s.size : Int) := by omega
  have hQ := fun w => rquery_any s w (by omega)
  unfold RQueryP at hQ
  rw [hp] at hQ
  simp only at hQ
  have HP := Lib.hid hQ
  have hwf := parse_wf hp
  rw [len_toList] at hwf
  obtain ⟨x0, a, b, hcq⟩ := code_q hwf.1 (by omega)
  have HCQ := Lib.hid hcq
  obtain ⟨c, hc⟩ : ∃ c, codeT p = c := ⟨_, rfl⟩
  rw [hc] at HP HCQ
  clear hQ hp hwf hcq hc
  have hab := HCQ.out.le
  have hbl := HCQ.out.lb
  have hsz := HCQ.out.size
  unfold szC at hsz
  have hp0 : 0 < c.ps.length := (List.getElem?_eq_some_iff.1 HCQ.out.p0).1
  have hp1 : (0 : Int) < (c.ps.length : Int) := by omega
  go_enter Try.func4, Try.ntmps4
  go_upto_region 6 with (first | ((with_reducible refine g_al 29 3 ?_); refine l_al F_Code M.out ?_; clear M; intro g3 w' hg3 M) | ((with_reducible refine g_al 32 4 ?_); refine l_al F_Flt M.out ?_; clear M; intro g4 w' hg4 M) | ((with_reducible refine g_st 29 ?_); refine l_st F_Code rfl rfl M.out (by repeat constructor) (by exact rfl) (by exact rfl) (by exact rfl) ?_; clear M; intro w' M) | ((with_reducible refine g_st 32 ?_); refine l_st F_Flt rfl rfl M.out (by repeat constructor) (by exact rfl) (by exact rfl) (by exact rfl) ?_; clear M; intro w' M) | ((with_reducible refine g_ld 30 ?_); refine l_ld1 O_errno rfl M.out (by repeat constructor) (by exact rfl) ?_) | (go_at_call 5; (with_reducible refine (awake20 _).mono ?_); rintro e w' ⟨rfl, hb⟩; replace M := Lib.hid (M.out.bel hb); clear hb) | (go_at_call 6; (with_reducible refine (HP.out _).mono ?_); rintro e w' ⟨A1, A2, A3, A4, k1, k2, k3, k4, rfl, hcr, ⟨f1, f2, f3, f4⟩, hq, hb⟩; have HF := Lib.hid (show FrA w A1 ∧ FrA w A2 ∧ FrA w A3 ∧ FrA w A4 from ⟨f1.le M.out.size, f2.le M.out.size, f3.le M.out.size, f4.le M.out.size⟩); have Mn := M.out.addC hb hcr f1 f2 f3 f4; have HQQ := Lib.hid hq; replace M := Lib.hid Mn; clear Mn hb hcr f1 f2 f3 f4 hq))
  replace M := Lib.hid (M.out.imp (J' := fun y => CRd y c A1 A2 A3 A4) fun y h => h.2)
  obtain ⟨b1, o1, hA1, hc1⟩ := rdd_at pathC 3 (fun _ => rfl) (fun y h => CRd.p h) M.out.now (fun a e => (HF.out.1 a e).2) HCQ.out.p0
  subst hA1
  have HPC := Lib.hid hc1
  clear hc1
  have HX1 := Lib.hid (show (pathC x0)[1]? = some (.int .i64 (a : Int)) from by rw [← HCQ.out.fr]; rfl)
  have HX2 := Lib.hid (show (pathC x0)[2]? = some (.int .i64 (b : Int)) from by rw [← HCQ.out.tt]; rfl)
  have HZ1 := Lib.hid (show ∀ y, CRd y c (some ⟨b1, o1, none⟩) A2 A3 A4 → y.cell? ⟨b1, o1 + 1, none⟩ = some (.int .i64 (a : Int)) from fun y h => by simpa using HPC.out y h 1 _ HX1.out)
  have HZ2 := Lib.hid (show ∀ y, CRd y c (some ⟨b1, o1, none⟩) A2 A3 A4 → y.cell? ⟨b1, o1 + 2, none⟩ = some (.int .i64 (b : Int)) from fun y h => by simpa using HPC.out y h 2 _ HX2.out)
  go_wp2_with (first | ((with_reducible refine g_ld 24 ?_); refine l_ld1 O_sCPath rfl M.out (by repeat constructor) (by exact rfl) ?_) | ((with_reducible refine g_ld 3 ?_); refine l_ldc O_int rfl (HZ1.out _ M.out.now) ?_))
  go_loopg [5, 6] (b - a) (fun gk sv iv wr => ∃ k : Nat, gk = b - a - k ∧ sv = .bool (sgK c a k) ∧ iv = .int .i64 ((a + k : Nat) : Int) ∧ Hid (k ≤ b - a) ∧ Hid (Own [] w wr [(g4, 32, #[.int .i64 0, .int .i64 0]), (g3, 29, #[.slice (some ⟨b1, o1, none⟩) c.ps.length k1, .slice A2 c.gs.length k2, .slice A3 c.ss.length k3, .slice A4 c.is.length k4])] [] (fun y => CRd y c (some ⟨b1, o1, none⟩) A2 A3 A4)))
  case atStart => exact ⟨0, rfl, by simp [sgK], by simp, Lib.hid (Nat.zero_le _), M⟩
  case round =>
    clear M
    obtain ⟨k, hgk, rfl, rfl, HKB, M⟩ := hrel
    have HGK := Lib.hid hgk
    have hkb := HKB.out
    by_cases hkl : k < b - a
    · have hlt : ((a + k : Nat) : Int) < (b : Int) := by omega
      have hlg : ((a + k : Nat) : Int) < (c.gs.length : Int) := by omega
      have hak : a + k < c.gs.length := by omega
      obtain ⟨sg, hsg⟩ : ∃ sg, c.gs[a + k]? = some sg := ⟨_, List.getElem?_eq_getElem hak⟩
      have HSI := Lib.hid hsg
      have hsb := HCQ.out.segs sg (List.mem_of_getElem? hsg)
      obtain ⟨f, hf⟩ : ∃ f : Nat, sg.fr = (f : Int) := ⟨sg.fr.toNat, by omega⟩
      have hfl : f < c.ss.length := by omega
      obtain ⟨y0, hy0⟩ : ∃ y0, c.ss[f]? = some y0 := ⟨_, List.getElem?_eq_getElem hfl⟩
      obtain ⟨b2, o2, hA2, hc2⟩ := rdd_at segC 3 (fun _ => rfl) (fun y h => CRd.g h) M.out.now (fun a e => (HF.out.2.1 a e).2) hsg
      subst hA2
      obtain ⟨b3, o3, hA3, hc3⟩ := rdd_at selC 8 (fun _ => rfl) (fun y h => CRd.s h) M.out.now (fun a e => (HF.out.2.2.1 a e).2) hy0
      subst hA3
      obtain ⟨dp, hdp⟩ : ∃ dp, sg.deep = dp := ⟨_, rfl⟩
      obtain ⟨t, htt⟩ : ∃ t, sg.tt = t := ⟨_, rfl⟩
      obtain ⟨kd, hkd⟩ : ∃ kd, y0.kind = kd := ⟨_, rfl⟩
      have HSG := Lib.hid (show sglSeg c sg = (!dp && decide (t = (f : Int) + 1) && (kd == 0 || kd == 2)) from by
        unfold sglSeg; rw [hf, Int.toNat_natCast, hy0, hdp, htt, ← hkd])
      have HRG := Lib.hid (show ∀ y, CRd y c (some ⟨b1, o1, none⟩) (some ⟨b2, o2, none⟩) (some ⟨b3, o3, none⟩) A4 → y.rangeAt b2 (o2 + (a + k) * 3) [.bool dp, .int .i64 (f : Int), .int .i64 t] from fun y h j u hu => by
        have := hc2 y h j u (by rw [show segC sg = [.bool dp, .int .i64 (f : Int), .int .i64 t] from by rw [← hf, ← hdp, ← htt]; rfl]; exact hu)
        exact this)
      have HSL := Lib.hid (show ∀ y, CRd y c (some ⟨b1, o1, none⟩) (some ⟨b2, o2, none⟩) (some ⟨b3, o3, none⟩) A4 → y.cell? ⟨b3, o3 + f * 8, none⟩ = some (.int .i64 kd) from fun y h => by rw [← hkd]; simpa using hc3 y h 0 _ rfl)
      have hfi : (f : Int) < (c.ss.length : Int) := by omega
      have hf1 : IntKind.i64.wrap ((f : Int) + 1) = (f : Int) + 1 := IntWalk.i64_in _ (by omega)
      clear hc2 hc3 hy0 hsg hf hdp htt hkd hsb
      obtain ⟨sv, hsv⟩ : ∃ sv, sgK c a k = sv := ⟨_, rfl⟩
      have HSV := Lib.hid hsv
      rw [hsv]
      clear hsv
      go_upto_region 11 with (first | ((with_reducible refine g_ld 24 ?_); refine l_ld1 O_sCPath rfl M.out (by repeat constructor) (by exact rfl) ?_) | ((with_reducible refine g_ld 25 ?_); refine l_ld1 O_sCSeg rfl M.out (by repeat constructor) (by exact rfl) ?_) | ((with_reducible refine g_ld 3 ?_); refine l_ldc O_int rfl (HZ2.out _ M.out.now) ?_) | ((with_reducible refine g_ld 42 ?_); refine l_ldf F_CSeg rfl (HRG.out _ M.out.now) rfl ?_) | ((with_reducible refine g_al 42 7 ?_); refine l_al F_CSeg M.out ?_; clear M; intro g7 w' hg7 M) | ((with_reducible refine g_st 42 ?_); refine l_st F_CSeg rfl rfl M.out (by repeat constructor) (by exact rfl) (by exact rfl) (by exact rfl) ?_; clear M; intro w' M))
      cases sv with
      | false =>
        go_wp2_with (first | ((with_reducible refine g_ld 24 ?_); refine l_ld1 O_sCPath rfl M.out (by repeat constructor) (by exact rfl) ?_) | ((with_reducible refine g_ld 25 ?_); refine l_ld1 O_sCSeg rfl M.out (by repeat constructor) (by exact rfl) ?_) | ((with_reducible refine g_ld 26 ?_); refine l_ld1 O_sCSel rfl M.out (by repeat constructor) (by exact rfl) ?_) | ((with_reducible refine g_ldg 26 ?_); refine l_ld1g O_sCSel rfl rfl M.out (by repeat constructor) (by exact rfl) ?_) | ((with_reducible refine g_ld 4 ?_); refine l_ld1 O_bool rfl M.out (by repeat constructor) (by exact rfl) ?_) | ((with_reducible refine g_ldg 4 ?_); refine l_ld1g O_bool rfl rfl M.out (by repeat constructor) (by exact rfl) ?_) | ((with_reducible refine g_ld 3 ?_); refine l_ld1 O_int rfl M.out (by repeat constructor) (by exact rfl) ?_) | ((with_reducible refine g_ldg 3 ?_); refine l_ld1g O_int rfl rfl M.out (by repeat constructor) (by exact rfl) ?_) | ((with_reducible refine g_ldg 3 ?_); refine l_ldcg O_int rfl rfl (HSL.out _ M.out.now) ?_))
        go_roundg (b - a - (k + 1))
        case measure => first | omega | (rw [HGK.out]; omega)
        case rel => exact ⟨k + 1, rfl, by rw [sgK_step HSI.out, HSV.out, HSG.out]; simp, by first | go_num | simp, Lib.hid (by omega), Lib.hid (M.out.freeze.imp fun y h => h.1)⟩
      | true =>
        cases dp with
        | true =>
          go_wp2_with (first | ((with_reducible refine g_ld 24 ?_); refine l_ld1 O_sCPath rfl M.out (by repeat constructor) (by exact rfl) ?_) | ((with_reducible refine g_ld 25 ?_); refine l_ld1 O_sCSeg rfl M.out (by repeat constructor) (by exact rfl) ?_) | ((with_reducible refine g_ld 26 ?_); refine l_ld1 O_sCSel rfl M.out (by repeat constructor) (by exact rfl) ?_) | ((with_reducible refine g_ldg 26 ?_); refine l_ld1g O_sCSel rfl rfl M.out (by repeat constructor) (by exact rfl) ?_) | ((with_reducible refine g_ld 4 ?_); refine l_ld1 O_bool rfl M.out (by repeat constructor) (by exact rfl) ?_) | ((with_reducible refine g_ldg 4 ?_); refine l_ld1g O_bool rfl rfl M.out (by repeat constructor) (by exact rfl) ?_) | ((with_reducible refine g_ld 3 ?_); refine l_ld1 O_int rfl M.out (by repeat constructor) (by exact rfl) ?_) | ((with_reducible refine g_ldg 3 ?_); refine l_ld1g O_int rfl rfl M.out (by repeat constructor) (by exact rfl) ?_) | ((with_reducible refine g_ldg 3 ?_); refine l_ldcg O_int rfl rfl (HSL.out _ M.out.now) ?_))
          go_roundg (b - a - (k + 1))
          case measure => first | omega | (rw [HGK.out]; omega)
          case rel => exact ⟨k + 1, rfl, by rw [sgK_step HSI.out, HSV.out, HSG.out]; simp, by first | go_num | simp, Lib.hid (by omega), Lib.hid (M.out.freeze.imp fun y h => h.1)⟩
        | false =>
          by_cases ht : t = (f : Int) + 1
          · have hte : (t == (f : Int) + 1) = true := beq_iff_eq.2 ht
            by_cases hk0 : kd = 0
            · have hke : (kd == 0) = true := beq_iff_eq.2 hk0
              go_wp2_with (first | ((with_reducible refine g_ld 24 ?_); refine l_ld1 O_sCPath rfl M.out (by repeat constructor) (by exact rfl) ?_) | ((with_reducible refine g_ld 25 ?_); refine l_ld1 O_sCSeg rfl M.out (by repeat constructor) (by exact rfl) ?_) | ((with_reducible refine g_ld 26 ?_); refine l_ld1 O_sCSel rfl M.out (by repeat constructor) (by exact rfl) ?_) | ((with_reducible refine g_ldg 26 ?_); refine l_ld1g O_sCSel rfl rfl M.out (by repeat constructor) (by exact rfl) ?_) | ((with_reducible refine g_ld 4 ?_); refine l_ld1 O_bool rfl M.out (by repeat constructor) (by exact rfl) ?_) | ((with_reducible refine g_ldg 4 ?_); refine l_ld1g O_bool rfl rfl M.out (by repeat constructor) (by exact rfl) ?_) | ((with_reducible refine g_ld 3 ?_); refine l_ld1 O_int rfl M.out (by repeat constructor) (by exact rfl) ?_) | ((with_reducible refine g_ldg 3 ?_); refine l_ld1g O_int rfl rfl M.out (by repeat constructor) (by exact rfl) ?_) | ((with_reducible refine g_ldg 3 ?_); refine l_ldcg O_int rfl rfl (HSL.out _ M.out.now) ?_))
              go_roundg (b - a - (k + 1))
              case measure => first | omega | (rw [HGK.out]; omega)
              case rel => exact ⟨k + 1, rfl, by rw [sgK_step HSI.out, HSV.out, HSG.out]; simp [ht, hk0], by first | go_num | simp, Lib.hid (by omega), Lib.hid (M.out.freeze.imp fun y h => h.1)⟩
            · have hke : (kd == 0) = false := beq_eq_false_iff_ne.2 hk0
              by_cases hk2 : kd = 2
              · have hk2e : (kd == 2) = true := beq_iff_eq.2 hk2
                go_wp2_with (first | ((with_reducible refine g_ld 24 ?_); refine l_ld1 O_sCPath rfl M.out (by repeat constructor) (by exact rfl) ?_) | ((with_reducible refine g_ld 25 ?_); refine l_ld1 O_sCSeg rfl M.out (by repeat constructor) (by exact rfl) ?_) | ((with_reducible refine g_ld 26 ?_); refine l_ld1 O_sCSel rfl M.out (by repeat constructor) (by exact rfl) ?_) | ((with_reducible refine g_ldg 26 ?_); refine l_ld1g O_sCSel rfl rfl M.out (by repeat constructor) (by exact rfl) ?_) | ((with_reducible refine g_ld 4 ?_); refine l_ld1 O_bool rfl M.out (by repeat constructor) (by exact rfl) ?_) | ((with_reducible refine g_ldg 4 ?_); refine l_ld1g O_bool rfl rfl M.out (by repeat constructor) (by exact rfl) ?_) | ((with_reducible refine g_ld 3 ?_); refine l_ld1 O_int rfl M.out (by repeat constructor) (by exact rfl) ?_) | ((with_reducible refine g_ldg 3 ?_); refine l_ld1g O_int rfl rfl M.out (by repeat constructor) (by exact rfl) ?_) | ((with_reducible refine g_ldg 3 ?_); refine l_ldcg O_int rfl rfl (HSL.out _ M.out.now) ?_))
                go_roundg (b - a - (k + 1))
                case measure => first | omega | (rw [HGK.out]; omega)
                case rel => exact ⟨k + 1, rfl, by rw [sgK_step HSI.out, HSV.out, HSG.out]; simp [ht, hk2], by first | go_num | simp, Lib.hid (by omega), Lib.hid (M.out.freeze.imp fun y h => h.1)⟩
              · have hk2e : (kd == 2) = false := beq_eq_false_iff_ne.2 hk2
                go_wp2_with (first | ((with_reducible refine g_ld 24 ?_); refine l_ld1 O_sCPath rfl M.out (by repeat constructor) (by exact rfl) ?_) | ((with_reducible refine g_ld 25 ?_); refine l_ld1 O_sCSeg rfl M.out (by repeat constructor) (by exact rfl) ?_) | ((with_reducible refine g_ld 26 ?_); refine l_ld1 O_sCSel rfl M.out (by repeat constructor) (by exact rfl) ?_) | ((with_reducible refine g_ldg 26 ?_); refine l_ld1g O_sCSel rfl rfl M.out (by repeat constructor) (by exact rfl) ?_) | ((with_reducible refine g_ld 4 ?_); refine l_ld1 O_bool rfl M.out (by repeat constructor) (by exact rfl) ?_) | ((with_reducible refine g_ldg 4 ?_); refine l_ld1g O_bool rfl rfl M.out (by repeat constructor) (by exact rfl) ?_) | ((with_reducible refine g_ld 3 ?_); refine l_ld1 O_int rfl M.out (by repeat constructor) (by exact rfl) ?_) | ((with_reducible refine g_ldg 3 ?_); refine l_ld1g O_int rfl rfl M.out (by repeat constructor) (by exact rfl) ?_) | ((with_reducible refine g_ldg 3 ?_); refine l_ldcg O_int rfl rfl (HSL.out _ M.out.now) ?_))
                go_roundg (b - a - (k + 1))
                case measure => first | omega | (rw [HGK.out]; omega)
                case rel => exact ⟨k + 1, rfl, by rw [sgK_step HSI.out, HSV.out, HSG.out]; simp [ht, hk2, hk0], by first | go_num | simp, Lib.hid (by omega), Lib.hid (M.out.freeze.imp fun y h => h.1)⟩
          · have hte : (t == (f : Int) + 1) = false := beq_eq_false_iff_ne.2 ht
            go_wp2_with (first | ((with_reducible refine g_ld 24 ?_); refine l_ld1 O_sCPath rfl M.out (by repeat constructor) (by exact rfl) ?_) | ((with_reducible refine g_ld 25 ?_); refine l_ld1 O_sCSeg rfl M.out (by repeat constructor) (by exact rfl) ?_) | ((with_reducible refine g_ld 26 ?_); refine l_ld1 O_sCSel rfl M.out (by repeat constructor) (by exact rfl) ?_) | ((with_reducible refine g_ldg 26 ?_); refine l_ld1g O_sCSel rfl rfl M.out (by repeat constructor) (by exact rfl) ?_) | ((with_reducible refine g_ld 4 ?_); refine l_ld1 O_bool rfl M.out (by repeat constructor) (by exact rfl) ?_) | ((with_reducible refine g_ldg 4 ?_); refine l_ld1g O_bool rfl rfl M.out (by repeat constructor) (by exact rfl) ?_) | ((with_reducible refine g_ld 3 ?_); refine l_ld1 O_int rfl M.out (by repeat constructor) (by exact rfl) ?_) | ((with_reducible refine g_ldg 3 ?_); refine l_ld1g O_int rfl rfl M.out (by repeat constructor) (by exact rfl) ?_) | ((with_reducible refine g_ldg 3 ?_); refine l_ldcg O_int rfl rfl (HSL.out _ M.out.now) ?_))
            go_roundg (b - a - (k + 1))
            case measure => first | omega | (rw [HGK.out]; omega)
            case rel => exact ⟨k + 1, rfl, by rw [sgK_step HSI.out, HSV.out, HSG.out]; simp [ht], by first | go_num | simp, Lib.hid (by omega), Lib.hid (M.out.freeze.imp fun y h => h.1)⟩
    · have hnl : ¬ ((a + k : Nat) : Int) < (b : Int) := by omega
      have hke : k = b - a := by omega
      obtain ⟨sv, hsv⟩ : ∃ sv, sgK c a k = sv := ⟨_, rfl⟩
      have HS1 := Lib.hid (fun (wz : World) (h : CRd wz c (some ⟨b1, o1, none⟩) A2 A3 A4) => show Calls Try.prog 7 #[.agg #[.slice (some ⟨b1, o1, none⟩) c.ps.length k1, .slice A2 c.gs.length k2, .slice A3 c.ss.length k3, .slice A4 c.is.length k4]] wz fun e w' => e = .returned (.bool true) ∧ Bel wz.heap.size wz w' from by
        have := psound_any _ _ _ _ k1 k2 k3 k4 c wz (crd_cm h HF.out) (by omega) (by omega) (by omega) (by omega) HQQ.out.1 HQQ.out.2
        rw [HCQ.out.sound] at this
        exact this)
      have HS2 := Lib.hid (fun (wz : World) (h : CRd wz c (some ⟨b1, o1, none⟩) A2 A3 A4) => show Calls Try.prog 8 #[.agg #[.slice (some ⟨b1, o1, none⟩) c.ps.length k1, .slice A2 c.gs.length k2, .slice A3 c.ss.length k3, .slice A4 c.is.length k4], .int .i64 0] wz fun e w' => e = .returned (.bool sv) ∧ Bel wz.heap.size wz w' from by
        have := psing_any _ _ _ _ k1 k2 k3 k4 c 0 wz (crd_cm h HF.out) (by omega) (by omega) (by omega) HQQ.out.1
        rw [HCQ.out.single, ← hke, show ((c.gs.drop a).take k).all (sglSeg c) = sv from hsv] at this
        exact this)
      rw [hsv]
      clear hsv
      go_wp2_with (first | ((with_reducible refine g_ld 24 ?_); refine l_ld1 O_sCPath rfl M.out (by repeat constructor) (by exact rfl) ?_) | ((with_reducible refine g_ld 3 ?_); refine l_ldc O_int rfl (HZ2.out _ M.out.now) ?_) | ((with_reducible refine g_ld 29 ?_); refine l_ld F_Code rfl M.out (by repeat constructor) (by exact rfl) ?_) | ((with_reducible refine g_ldg 29 ?_); refine l_ldg F_Code rfl rfl M.out (by repeat constructor) (by exact rfl) ?_) | (go_at_call 7; (with_reducible refine (HS1.out _ M.out.now).mono ?_); rintro e w' ⟨rfl, hb⟩; replace M := Lib.hid (M.out.bel hb); clear hb) | (go_at_call 8; (with_reducible refine (HS2.out _ M.out.now).mono ?_); rintro e w' ⟨rfl, hb⟩; replace M := Lib.hid (M.out.bel hb); clear hb))
      go_ret
      exact ⟨by simp, M.out.bel0⟩
theorem vq_any (s : ByteArray) (w : World) (_ : s.size ≤ maxLen) : Calls Try.prog 4 #[.string s] w fun e w' => e = .returned (.bool true) ∧ Bel w.heap.size w w' := by
  by_cases hlen : s.size ≤ 400
  · cases hp : parseT false s.data.toList with
    | error e => exact vq_err s w hlen e.1 e.2 hp
    | ok p => exact vq_ok s w hlen p hp
  · exact vq_long s w hlen


end
/- The row's last step where of the world behind the call 'Bel' is known. -/
section
open Go.RowKit Go.WideShapes Go.ChangeShapes

theorem Bel.frame {W W' : World} (h : Bel W.heap.size W W') (may : MemPlace → Prop) : W.keptBut W' may := by
  refine ⟨h.os, h.output, fun i hi => ?_⟩
  rw [h.block i hi]
  split <;> simp_all

section
variable {H : Type} {enc : TypeId × Value → H} {P : Program}
theorem post_of_bel {f : Func} {s : ChangeSpec} {apart fresh handsOn again : Bool} {W W' : World} {args : Array Value} {v : Value} {ds gs : List (DataW H)} {before pa pv : List MemPlace}
    (hW : DataW.Whole enc P f.params.toList s.vars apart W args.toList ds gs before)
    (hres : ∀ (b : Nat) (sp : Nat → Bool) (hd : Bool), DataW.TrodAll enc P W' b sp hd f.resultTypes.toList (v.resultList f.resultTypes.size) (s.fn H (ds ++ gs)).results [])
    (hargs : ∀ sp : Nat → Bool, (∀ p ∈ before, sp p.block = true) → DataW.TrodAll enc P W' 0 sp true f.params.toList args.toList (s.fn H (ds ++ gs)).args pa)
    (hvars : ∀ sp : Nat → Bool, (∀ p ∈ before, sp p.block = true) → DataW.TrodVars enc P W' sp s.vars (s.fn H (ds ++ gs)).vars pv)
    (hps : before = pa ++ pv) (hb : Bel W.heap.size W W')
    (hok : ∀ (j : Nat) (t : TypeId) (r : Value), f.resultTypes[j]? = some t → (v.resultList f.resultTypes.size)[j]? = some r → Value.okWide P W' .any 0 t r) :
    s.post enc P f apart fresh handsOn again W args v W' := by
  have hlt : ∀ p ∈ before, p.block < W.heap.size := fun p hp => hW.lt p hp
  have hold : ∀ p ∈ before, (fun b => decide (b < W.heap.size)) p.block = true := fun p hp => by simpa using hlt p hp
  refine ⟨ds, gs, before, [], pa, pv, hW, hres _ _ _, hargs _ hold, hvars _ hold, World.keptBut_mono (fun p hp => ⟨hp, ?_⟩) (hb.frame (· ∈ before)), fun _ => ?_⟩
  · rw [hps, List.mem_append] at hp
    exact Or.inr hp
  · obtain ⟨_, _, _, _, _, hz, hn⟩ := hW
    refine ⟨hok, _, _, ([] ++ pa) ++ pv, ⟨[] ++ pa, pv, trodAll_append (hargs _ (fun _ _ => rfl)) (hres _ _ _), hvars _ (fun _ _ => rfl), rfl, ?_, ?_⟩, ?_⟩
    · intro b off hp
      have hin : MemPlace.cell b off ∈ before := by rw [hps]; simpa using hp
      rw [hb.frozen (hlt _ hin)]
      exact hz b off hin
    · intro ha
      have := hn ha
      rw [hps] at this
      simpa using this
    · intro p hp _
      rw [hps]
      simpa using hp
end

theorem own : ownKnob Try.prog.godebug = none := by kernel_rfl

end

end Go.Proofs.Ytpcbcodmocmilaa
