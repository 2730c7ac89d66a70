/- ref19: expr, or and and (printed by gen_ci.py). -/
import Derived.Deep.LoopGhost
import Derived.Test.YtpcbcodmocmilaaCh
namespace Go.Proofs.Ytpcbcodmocmilaa
open Go.RowKit

/-- A kid: the tree, its cells, the paths that it meets, as they lie in memory. -/
structure KidD where
  x : ExprT
  kc : List Value
  W : List (PathT × Value)
def wC (z : PathT × Value) : List Value := [.bool z.1.abs, z.2]
def ksD (D : List KidD) : List ExprT := D.map (·.x)
def nWD (D : List KidD) : Nat := (D.map fun d => d.W.length).sum
def wCD (D : List KidD) : List Value := D.flatMap fun d => d.W.flatMap wC
def insJ (n : Nat) (k : Int) (E a b : Nat) (l : List ExprT) : List InsD := insK (insN n) (lenN n) (fun y => (waitN n y).length) (3 + k) E a b l
/-- What expr does of a kid, in each world that has the tree. -/
def KidC (wT : World) (n : Nat) (d : KidD) : Prop :=
  ∀ (B1 B2 B3 A4 A5 : Option Addr) (m1 d1 m2 d2 m3 d3 c4 c5 n4 nw : Nat) (is : List InsD) (wc : List Value) (w : World), is.length = n4 → Bel wT.heap.size wT w → Rdd w 7 A4 n4 (is.flatMap insC) → Rdd w 2 A5 nw wc → (∀ u ∈ wc, u.oneCell' = true) → n4 + lenN n d.x ≤ 999990 → nw + d.W.length ≤ 999990 →
    Calls Try.prog 33 #[.agg #[.slice B1 m1 d1, .slice B2 m2 d2, .slice B3 m3 d3, .slice A4 n4 c4, .slice A5 nw c5], .agg d.kc.toArray] w (MoreP B1 B2 B3 m1 d1 m2 d2 m3 d3 n4 nw (is.flatMap insC) wc w (insN n n4 nw d.x) d.W.length (d.W.flatMap wC))
theorem flatMap_snoc (l : List InsD) (x : InsD) : (l ++ [x]).flatMap insC = l.flatMap insC ++ insC x := by simp
structure KidsOK (wT : World) (n : Nat) (b off : Nat) (D : List KidD) : Prop where
  lt : b < wT.heap.size
  kc : ∀ (i : Nat) (d : KidD), D[i]? = some d → d.kc.length = 17 ∧ wT.rangeAt b (off + i * 17) d.kc
  call : ∀ d ∈ D, KidC wT n d
  len : ∀ d ∈ D, (∀ a b, (insN n a b d.x).length = lenN n d.x) ∧ 1 ≤ lenN n d.x ∧ d.W.length = (waitN n d.x).length
  one : ∀ d ∈ D, ∀ u ∈ d.W.flatMap wC, u.oneCell' = true
def posV (L : ExprT → Nat) (a : Nat) (l : List ExprT) : List Value := (posK L a l).map fun (p : Nat) => .int .i64 (p : Int)
theorem nWD_eq {n : Nat} : ∀ {D : List KidD}, (∀ d ∈ D, d.W.length = (waitN n d.x).length) → ((ksD D).map fun y => (waitN n y).length).sum = nWD D
  | [], _ => rfl
  | d :: r, h => by
    have := nWD_eq (D := r) fun d hd => h d (by simp [hd])
    unfold ksD nWD at *
    rw [List.map_cons, List.map_cons, List.sum_cons, List.map_cons, List.sum_cons, this, h d (by simp)]
theorem lenK_app_le {L : ExprT → Nat} : ∀ (l r : List ExprT), lenK L l ≤ lenK L (l ++ r)
  | [], _ => Nat.zero_le _
  | [x], r => by cases r <;> simp [lenK]
  | x :: z :: l, r => by
    have := lenK_app_le (L := L) (z :: l) r
    rw [List.cons_append] at this
    rw [List.cons_append, List.cons_append, lenK_cc, lenK_cc]; omega
section
variable (B1 B2 B3 A4 A5 : Option Addr) (m1 d1 m2 d2 m3 d3 c4 c5 n4 nw : Nat) (is : List InsD) (wc : List Value) (w : World)

set_option maxRecDepth 100000 in
set_option maxHeartbeats 2000000 in
theorem rexpr_or (z2 z3 z4 z5 z6 z7 z8 z9 z10 z11 z12 z13 z14 z15 z16 : Value) (n b off qc : Nat) (wT : World) (D : List KidD) (hD : 2 ≤ D.length) (his : is.length = n4) (hK : KidsOK wT n b off D) (hw : Bel wT.heap.size wT w) (h4 : Rdd w 7 A4 n4 (is.flatMap insC)) (h5 : Rdd w 2 A5 nw wc) (h1 : ∀ u ∈ wc, u.oneCell' = true) (hl : n4 + lenK (lenN n) (ksD D) ≤ 999990) (hlw : nw + nWD D ≤ 999990) (hql : D.length ≤ 1000000) :
    Calls Try.prog 33 #[.agg #[.slice B1 m1 d1, .slice B2 m2 d2, .slice B3 m3 d3, .slice A4 n4 c4, .slice A5 nw c5], .agg #[.int .i64 0, .slice (some ⟨b, off, none⟩) D.length qc, z2, z3, z4, z5, z6, z7, z8, z9, z10, z11, z12, z13, z14, z15, z16]] w (MoreP B1 B2 B3 m1 d1 m2 d2 m3 d3 n4 nw (is.flatMap insC) wc w (insJ n 0 (n4 + lenK (lenN n) (ksD D)) n4 nw (ksD D)) (nWD D) (wCD D)) := by
  have M := Lib.hid (Own.start [] w (fun y => ((∀ (i : Nat) (d : KidD), D[i]? = some d → y.rangeAt b (off + i * 17) d.kc) ∧ Rdd y 7 A4 n4 (is.flatMap insC)) ∧ Rdd y 2 A5 nw wc) fun y hy => ⟨⟨fun i d hi j v hv => by
    rw [World.cell?_of_block (hy.2 b (Nat.lt_of_lt_of_le hK.lt hw.size) (by simp)), World.cell?_of_block (hw.block b hK.lt)]
    exact (hK.kc i d hi).2 j v hv, h4.old hy⟩, h5.old hy⟩)
  have HK := Lib.hid hK
  have HW := Lib.hid hw
  have HL := Lib.hid hl
  have HLW := Lib.hid hlw
  have HIS := Lib.hid his
  have HC0 := Lib.hid h1
  have HD2 := Lib.hid hD
  unfold MoreP
  clear h4 h5 h1 hK hw hD hl hlw his
  go_enter Try.func33, Try.ntmps33
  generalize hQ : bodyPost Try.prog Try.f33 _ = Q
  have HQ := Lib.hid hQ; clear hQ
  go_wp2_with (first | ((with_reducible refine g_bx 70 2 ?_); refine l_bx rfl M.out ?_; clear M; intro g2 w' hg2 M) | ((with_reducible refine g_bx 98 3 ?_); refine l_bx rfl M.out ?_; clear M; intro g3 w' hg3 M; replace M := Lib.hid M.out.freeze) | ((with_reducible refine g_al 70 4 ?_); refine l_al F_M M.out ?_; clear M; intro g4 w' hg4 M) | ((with_reducible refine g_ld 3 ?_); refine l_ld1j O_int rfl M.out (fun y h => h.2) (by exact rfl) ?_))
  go_loopg [5, 6] D.length (fun gk v kk wr => ∃ (Pd Rd : List KidD) (A4 A5 : Option Addr) (c4 c5 : Nat), gk = Rd.length ∧ Hid (D = Pd ++ Rd) ∧ kk = .int .i64 (Pd.length : Nat) ∧ Hid (Pd ≠ [] → FrA w A5) ∧ Hid (Own [] w wr [(g4, 70, #[.slice none 0 0, .slice none 0 0, .slice none 0 0, .slice none 0 0, .slice none 0 0]), (g2, 70, #[.slice B1 m1 d1, .slice B2 m2 d2, .slice B3 m3 d3, .slice A4 (n4 + lenK (lenN n) (ksD Pd)) c4, .slice A5 (nw + nWD Pd) c5])] [(v, 3, 1, (posK (lenN n) n4 (ksD Pd)).length, (posV (lenN n) n4 (ksD Pd)))] (fun y => (((∀ (i : Nat) (d : KidD), D[i]? = some d → y.rangeAt b (off + i * 17) d.kc) ∧ Blk y g3 98 #[.int .i64 0, .slice (some ⟨b, off, none⟩) D.length qc, z2, z3, z4, z5, z6, z7, z8, z9, z10, z11, z12, z13, z14, z15, z16]) ∧ Rdd y 7 A4 (n4 + lenK (lenN n) (ksD Pd)) ((is ++ insJ n 0 0 n4 nw (ksD Pd)).flatMap insC)) ∧ Rdd y 2 A5 (nw + nWD Pd) (wc ++ wCD Pd))))
  case atStart => exact ⟨[], D, A4, A5, c4, c5, rfl, Lib.hid rfl, rfl, Lib.hid (fun h => absurd rfl h), Lib.hid (by
    have := (M.out.rowNil 3 1).imp (J' := fun y => (((∀ (i : Nat) (d : KidD), D[i]? = some d → y.rangeAt b (off + i * 17) d.kc) ∧ Blk y g3 98 #[.int .i64 0, .slice (some ⟨b, off, none⟩) D.length qc, z2, z3, z4, z5, z6, z7, z8, z9, z10, z11, z12, z13, z14, z15, z16]) ∧ Rdd y 7 A4 n4 (is.flatMap insC)) ∧ Rdd y 2 A5 nw wc) fun y h => ⟨⟨⟨h.1.1.1, h.2⟩, h.1.1.2⟩, h.1.2⟩
    simpa [ksD, lenK, insJ, insK, nWD, wCD, posV, posK] using this)⟩
  case round =>
    clear M
    obtain ⟨Pd, Rd0, A4, A5, c4, c5, hgk, HD, rfl, HF5, M⟩ := hrel
    have HGK := Lib.hid hgk
    cases Rd0 with
    | cons dk Rd =>
      have HI := Lib.hid (show D[Pd.length]? = some dk from by rw [HD.out, List.getElem?_append_right (Nat.le_refl _), Nat.sub_self]; rfl)
      have hmem : dk ∈ D := List.mem_of_getElem? HI.out
      have HKC := Lib.hid (HK.out.call dk hmem)
      unfold KidC MoreP at HKC
      have HKL := Lib.hid (HK.out.kc _ _ HI.out).1
      have HLN := Lib.hid (HK.out.len dk hmem)
      have hlt : (Pd.length : Int) < (D.length : Int) := by have := (List.getElem?_eq_some_iff.1 HI.out).1; omega
      have HPD := Lib.hid (fun d (hd : d ∈ Pd) => HK.out.len d (by rw [HD.out]; simp [hd]))
      have HC := Lib.hid (show ∀ u ∈ (wc ++ wCD Pd), u.oneCell' = true from fun u hu => (List.mem_append.1 hu).elim (HC0.out u) fun hu => by
        obtain ⟨d, hd, hu⟩ := List.mem_flatMap.1 hu
        exact HK.out.one d (by rw [HD.out]; simp [hd]) u hu)
      have HXL := Lib.hid (show (is ++ insJ n 0 0 n4 nw (ksD Pd)).length = (n4 + lenK (lenN n) (ksD Pd)) from by rw [List.length_append, HIS.out, insJ, insK_len _ _ _ fun x hx => by
          obtain ⟨d, hd, rfl⟩ := List.mem_map.1 hx
          exact (HPD.out d hd).1])
      have HNW := Lib.hid (show nw + nWD Pd + dk.W.length ≤ 999990 from by
        have h1 := HLW.out
        rw [HD.out] at h1
        unfold nWD at h1 ⊢
        rw [List.map_append, List.sum_append, List.map_cons, List.sum_cons] at h1
        omega)
      have HKS := Lib.hid (show ksD (Pd ++ [dk]) = ksD Pd ++ [dk.x] from by simp [ksD])
      have HLE := Lib.hid (show n4 + lenK (lenN n) (ksD Pd ++ [dk.x]) ≤ 999990 from by
        have h1 := HL.out
        rw [HD.out, show ksD (Pd ++ dk :: Rd) = (ksD Pd ++ [dk.x]) ++ ksD Rd by simp [ksD]] at h1
        have := lenK_app_le (L := lenN n) (ksD Pd ++ [dk.x]) (ksD Rd)
        omega)
      have hpl : (posK (lenN n) n4 (ksD Pd)).length ≤ 1000000 := by
        have h1 := posK_len (L := lenN n) (ksD Pd) n4
        have h2 : (ksD Pd).length = Pd.length := by simp [ksD]
        omega
      have e3 : nw + nWD Pd + dk.W.length = nw + nWD (Pd ++ [dk]) := by simp [nWD]; omega
      have e4 : wc ++ wCD Pd ++ dk.W.flatMap wC = wc ++ wCD (Pd ++ [dk]) := by simp [wCD]
      have HE3 := Lib.hid e3
      have HE4 := Lib.hid e4
      clear e3 e4 hmem
      by_cases hp : Pd = []
      · have hz : ¬ (0 : Int) < (Pd.length : Int) := by rw [hp]; decide
        have HLX := Lib.hid (show (n4 + lenK (lenN n) (ksD Pd)) + lenN n dk.x ≤ 999990 from by have := HLE.out; rw [hp] at this ⊢; simp [ksD, lenK] at this ⊢; omega)
        have HE1 := Lib.hid (show (n4 + lenK (lenN n) (ksD Pd)) + (insN n (n4 + lenK (lenN n) (ksD Pd)) (nw + nWD Pd) dk.x).length = n4 + lenK (lenN n) (ksD (Pd ++ [dk])) from by rw [HLN.out.1, hp]; simp [ksD, lenK])
        have HE2 := Lib.hid (show ((is ++ insJ n 0 0 n4 nw (ksD Pd)).flatMap insC) ++ (insN n (n4 + lenK (lenN n) (ksD Pd)) (nw + nWD Pd) dk.x).flatMap insC = (is ++ insJ n 0 0 n4 nw (ksD (Pd ++ [dk]))).flatMap insC from by rw [hp]; simp [ksD, lenK, insJ, insK, nWD])
        have HE5 := Lib.hid (show posK (lenN n) n4 (ksD Pd) = posK (lenN n) n4 (ksD (Pd ++ [dk])) from by rw [hp]; simp [ksD, posK])
        clear hp
        go_upto_region 11 with (first | ((with_reducible refine g_ld 94 ?_); refine l_ld1j O_sEx rfl M.out (fun y h => h.1.1.2) (by exact rfl) ?_))
        replace M := Lib.hid M.out.drew
        refine tb (fun y => (((∀ (i : Nat) (d : KidD), D[i]? = some d → y.rangeAt b (off + i * 17) d.kc) ∧ Blk y g3 98 #[.int .i64 0, .slice (some ⟨b, off, none⟩) D.length qc, z2, z3, z4, z5, z6, z7, z8, z9, z10, z11, z12, z13, z14, z15, z16]) ∧ Rdd y 7 A4 (n4 + lenK (lenN n) (ksD Pd)) ((is ++ insJ n 0 0 n4 nw (ksD Pd)).flatMap insC)) ∧ Rdd y 2 A5 (nw + nWD Pd) (wc ++ wCD Pd)) M.out.now ?_
        refine tkp 1 rfl M.out.now ?_
        refine tk 2 rfl M.out.now (y_ld1 O_sEx _ _ _ rfl _ _ (fun _ h => h.1.1.2) _ rfl) ?_
        refine tkp 3 rfl M.out.now ?_
        refine tkp 4 rfl M.out.now ?_
        refine tk 5 rfl M.out.now (y_ldf F_Ex _ _ _ rfl dk.kc (fun _ h => h.1.1.1 _ _ HI.out) HKL.out) ?_
        refine tr [0] ?_
        refine r_ld F_M (i := 0) rfl rfl M.out (by repeat constructor) (by exact rfl) ?_ ?_
        · refine ⟨M.out.now, tn ?_⟩
          refine tr [6] ?_
          refine rdy_call (HKC.out B1 B2 B3 A4 A5 m1 d1 m2 d2 m3 d3 c4 c5 (n4 + lenK (lenN n) (ksD Pd)) (nw + nWD Pd) (is ++ insJ n 0 0 n4 nw (ksD Pd)) (wc ++ wCD Pd) _ (HXL.out) (HW.out.next M.out.bel0) (M.out.now.1.2) M.out.now.2 HC.out HLX.out HNW.out) (i := 6) (op := .call _) rfl (by go_simp) ?_ ?_
          · rintro e w' ⟨Az, cz, Ay, cy, rfl, hr4, hf4, hr5, hf5, hb⟩; have Mn := (M.out.addRd hb hr4 hf4).add (J' := fun y => Rdd y 2 Ay _ _) (fun y hy => hr5.kept hy fun a e _ hm => Nat.lt_irrefl _ (Nat.lt_of_lt_of_le (M.out.ex_lt hm) ((hf5 a e).1))); have HF5 := Lib.hid (hf5.le M.out.size); replace M := Lib.hid Mn; clear Mn hb hr4 hf4 hr5 hf5; refine ⟨_, rfl, ?_⟩; refine ⟨M.out.now.1.1, tn ?_⟩
            refine tr [7] ?_
            refine r_st F_M (i := 7) rfl rfl rfl M.out (by repeat constructor) (by exact rfl) (by exact rfl) (by exact rfl) ?_ ?_
            · clear M; intro w' M; refine ⟨M.out.now.1.1, tn ?_⟩
              refine te ?_
              go_wp2
              go_roundg Rd.length
              case measure => first | (rw [HGK.out]; simp; done) | (simp; done)
              case rel => exact ⟨Pd ++ [dk], Rd, Az, Ay, cz, cy, rfl, Lib.hid (by rw [HD.out]; simp), by first | go_num | simp, Lib.hid (fun _ => HF5.out), Lib.hid (by rw [← HE1.out, ← HE2.out, ← HE3.out, ← HE4.out]; unfold posV; rw [← HE5.out]; exact M.out.imp fun y h => ⟨⟨h.1.1.1.1, h.1.2⟩, h.2⟩)⟩
            exact .nil
          exact .nil
        exact .nil
      · have hz : (0 : Int) < (Pd.length : Int) := by have := List.length_pos_iff.2 hp; omega
        have hk0 : ksD Pd ≠ [] := by unfold ksD; simpa using hp
        have HLX := Lib.hid (show (n4 + lenK (lenN n) (ksD Pd)) + 1 + lenN n dk.x ≤ 999990 from by have := HLE.out; rw [lenK_snoc _ _ hk0] at this; omega)
        have HE1 := Lib.hid (show (n4 + lenK (lenN n) (ksD Pd)) + 1 + (insN n ((n4 + lenK (lenN n) (ksD Pd)) + 1) (nw + nWD Pd) dk.x).length = n4 + lenK (lenN n) (ksD (Pd ++ [dk])) from by rw [HLN.out.1, HKS.out, lenK_snoc _ _ hk0]; omega)
        have HE2 := Lib.hid (show (((is ++ insJ n 0 0 n4 nw (ksD Pd)) ++ [(⟨3, 0, 0, 0, 0, ⟨#[]⟩, 0⟩ : InsD)]).flatMap insC) ++ (insN n ((n4 + lenK (lenN n) (ksD Pd)) + 1) (nw + nWD Pd) dk.x).flatMap insC = (is ++ insJ n 0 0 n4 nw (ksD (Pd ++ [dk]))).flatMap insC from by
          rw [HKS.out]
          unfold insJ
          rw [insK_snoc _ _ _ _ hk0, nWD_eq fun d hd => (HPD.out d hd).2.2]
          simp only [List.flatMap_append, List.flatMap_cons, List.append_assoc, List.flatMap_nil, List.append_nil]
          rfl)
        have HE5 := Lib.hid (show posK (lenN n) n4 (ksD Pd) ++ [(n4 + lenK (lenN n) (ksD Pd))] = posK (lenN n) n4 (ksD (Pd ++ [dk])) from by rw [HKS.out, posK_snoc _ _ _ hk0])
        have HX := Lib.hid (show ((is ++ insJ n 0 0 n4 nw (ksD Pd)) ++ [(⟨3, 0, 0, 0, 0, ⟨#[]⟩, 0⟩ : InsD)]).length = (n4 + lenK (lenN n) (ksD Pd)) + 1 from by rw [List.length_append, HXL.out]; rfl)
        clear hp hk0
        go_upto_region 11 with (first | ((with_reducible refine g_ld 94 ?_); refine l_ld1j O_sEx rfl M.out (fun y h => h.1.1.2) (by exact rfl) ?_) | ((with_reducible refine g_ld 27 ?_); refine l_ld1 O_sIns rfl M.out (by repeat constructor) (by exact rfl) ?_) | ((with_reducible refine g_bs 75 32 ?_); refine l_bs SL_sint (cs := #[.int .i64 (((n4 + lenK (lenN n) (ksD Pd)) : Nat) : Int)]) (by kernel_rfl) M.out ?_; clear M; intro g32 w' hg32 M) | ((with_reducible refine g_ap 75 33 ?_); refine l_apB SL_sint rfl rfl M.out (by repeat constructor) (by repeat constructor) (by exact rfl) (by exact rfl) (by unfold maxLen; omega) (by omega) ?_; intro v33 w' Mn; have Mn := Mn _ (by repeat constructor); replace M := Lib.hid Mn; clear Mn) | ((with_reducible refine g_ld 70 ?_); refine l_ld F_M rfl M.out (by repeat constructor) (by exact rfl) ?_) | ((with_reducible refine g_ld 3 ?_); refine l_ld1j O_int rfl M.out (fun y h => h.1.1.2) (by exact rfl) ?_) | ((with_reducible refine g_st 70 ?_); refine l_st F_M rfl rfl M.out (by repeat constructor) (by exact rfl) (by exact rfl) (by exact rfl) ?_; clear M; intro w' M) | (go_at_call 34; refine (rput_any B1 B2 B3 A4 A5 m1 d1 m2 d2 m3 d3 c4 (nw + nWD Pd) c5 _ (n4 + lenK (lenN n) (ksD Pd)) ((is ++ insJ n 0 0 n4 nw (ksD Pd)).flatMap insC) ⟨3, 0, 0, 0, 0, ⟨#[]⟩, 0⟩ (by have := HLX.out; omega) (ins_one1 _) M.out.now.1.2).mono ?_; rintro e w' ⟨Ax, cx, rfl, hrd, hfr, hb⟩; rw [← flatMap_snoc] at hrd; have Mn := M.out.addRd hb hrd hfr; replace M := Lib.hid Mn; clear Mn hb hrd hfr))
        replace M := Lib.hid (M.out.drop.imp (J' := fun y => (((∀ (i : Nat) (d : KidD), D[i]? = some d → y.rangeAt b (off + i * 17) d.kc) ∧ Blk y g3 98 #[.int .i64 0, .slice (some ⟨b, off, none⟩) D.length qc, z2, z3, z4, z5, z6, z7, z8, z9, z10, z11, z12, z13, z14, z15, z16]) ∧ Rdd y 7 Ax ((n4 + lenK (lenN n) (ksD Pd)) + 1) (((is ++ insJ n 0 0 n4 nw (ksD Pd)) ++ [(⟨3, 0, 0, 0, 0, ⟨#[]⟩, 0⟩ : InsD)]).flatMap insC)) ∧ Rdd y 2 A5 (nw + nWD Pd) (wc ++ wCD Pd)) fun y h => ⟨⟨h.1.1.1, h.2⟩, h.1.2⟩)
        replace M := Lib.hid M.out.drew
        refine tb (fun y => (((∀ (i : Nat) (d : KidD), D[i]? = some d → y.rangeAt b (off + i * 17) d.kc) ∧ Blk y g3 98 #[.int .i64 0, .slice (some ⟨b, off, none⟩) D.length qc, z2, z3, z4, z5, z6, z7, z8, z9, z10, z11, z12, z13, z14, z15, z16]) ∧ Rdd y 7 Ax ((n4 + lenK (lenN n) (ksD Pd)) + 1) (((is ++ insJ n 0 0 n4 nw (ksD Pd)) ++ [(⟨3, 0, 0, 0, 0, ⟨#[]⟩, 0⟩ : InsD)]).flatMap insC)) ∧ Rdd y 2 A5 (nw + nWD Pd) (wc ++ wCD Pd)) M.out.now ?_
        refine tkp 1 rfl M.out.now ?_
        refine tk 2 rfl M.out.now (y_ld1 O_sEx _ _ _ rfl _ _ (fun _ h => h.1.1.2) _ rfl) ?_
        refine tkp 3 rfl M.out.now ?_
        refine tkp 4 rfl M.out.now ?_
        refine tk 5 rfl M.out.now (y_ldf F_Ex _ _ _ rfl dk.kc (fun _ h => h.1.1.1 _ _ HI.out) HKL.out) ?_
        refine tr [0] ?_
        refine r_ld F_M (i := 0) rfl rfl M.out (by repeat constructor) (by exact rfl) ?_ ?_
        · refine ⟨M.out.now, tn ?_⟩
          refine tr [6] ?_
          refine rdy_call (HKC.out B1 B2 B3 Ax A5 m1 d1 m2 d2 m3 d3 cx c5 ((n4 + lenK (lenN n) (ksD Pd)) + 1) (nw + nWD Pd) ((is ++ insJ n 0 0 n4 nw (ksD Pd)) ++ [(⟨3, 0, 0, 0, 0, ⟨#[]⟩, 0⟩ : InsD)]) (wc ++ wCD Pd) _ (HX.out) (HW.out.next M.out.bel0) (M.out.now.1.2) M.out.now.2 HC.out HLX.out HNW.out) (i := 6) (op := .call _) rfl (by go_simp) ?_ ?_
          · rintro e w' ⟨Az, cz, Ay, cy, rfl, hr4, hf4, hr5, hf5, hb⟩; have Mn := (M.out.addRd hb hr4 hf4).add (J' := fun y => Rdd y 2 Ay _ _) (fun y hy => hr5.kept hy fun a e _ hm => Nat.lt_irrefl _ (Nat.lt_of_lt_of_le (M.out.ex_lt hm) ((hf5 a e).1))); have HF5 := Lib.hid (hf5.le M.out.size); replace M := Lib.hid Mn; clear Mn hb hr4 hf4 hr5 hf5; refine ⟨_, rfl, ?_⟩; refine ⟨M.out.now.1.1, tn ?_⟩
            refine tr [7] ?_
            refine r_st F_M (i := 7) rfl rfl rfl M.out (by repeat constructor) (by exact rfl) (by exact rfl) (by exact rfl) ?_ ?_
            · clear M; intro w' M; refine ⟨M.out.now.1.1, tn ?_⟩
              refine te ?_
              go_wp2
              go_roundg Rd.length
              case measure => first | (rw [HGK.out]; simp; done) | (simp; done)
              case rel => exact ⟨Pd ++ [dk], Rd, Az, Ay, cz, cy, rfl, Lib.hid (by rw [HD.out]; simp), by first | go_num | simp, Lib.hid (fun _ => HF5.out), Lib.hid (by rw [← HE1.out, ← HE2.out, ← HE3.out, ← HE4.out]; unfold posV; rw [← HE5.out, List.length_append, List.map_append]; exact M.out.imp fun y h => ⟨⟨h.1.1.1.1, h.1.2⟩, h.2⟩)⟩
            exact .nil
          exact .nil
        exact .nil
    | nil =>
      obtain rfl : D = Pd := by simpa using HD.out
      have hnlt : ¬ (D.length : Int) < (D.length : Int) := by omega
      have HXL := Lib.hid (show (is ++ insJ n 0 0 n4 nw (ksD D)).length = (n4 + lenK (lenN n) (ksD D)) from by rw [List.length_append, HIS.out, insJ, insK_len _ _ _ fun x hx => by
          obtain ⟨d, hd, rfl⟩ := List.mem_map.1 hx
          exact (HK.out.len d hd).1])
      have HPN := Lib.hid (show 0 < (posK (lenN n) n4 (ksD D)).length from by
        have h1 := posK_len1 (L := lenN n) (ksD D) n4 (two_ne (by simpa [ksD] using HD2.out))
        have h2 : (ksD D).length = D.length := by simp [ksD]
        have := HD2.out; omega)
      have HNN := Lib.hid (show 0 < (n4 + lenK (lenN n) (ksD D)) from by
        have := lenK_pos (lenN n) (l := ksD D) (fun x hx => by
          obtain ⟨d, hd, rfl⟩ := List.mem_map.1 hx
          exact (HK.out.len d hd).2.1) (two_ne (by simpa [ksD] using HD2.out))
        omega)
      have hplD : (posK (lenN n) n4 (ksD D)).length ≤ 1000000 := by
        have h1 := posK_len (L := lenN n) (ksD D) n4
        have h2 : (ksD D).length = D.length := by simp [ksD]
        omega
      have hN9 : (n4 + lenK (lenN n) (ksD D)) ≤ 999990 := HL.out
      clear HGK HD
      go_wp2_with (first | ((with_reducible refine g_ld 94 ?_); refine l_ld1j O_sEx rfl M.out (fun y h => h.1.1.2) (by exact rfl) ?_) | ((with_reducible refine g_bs 27 47 ?_); refine l_bs0 SL_sIns lit0_sIns M.out ?_; clear M; intro g47 w' hg47 M) | ((with_reducible refine g_ld 27 ?_); refine l_ld1 O_sIns rfl M.out (by repeat constructor) (by exact rfl) ?_) | ((with_reducible refine g_ap 27 51 ?_); refine l_apR SL_sIns rfl rfl M.out (by repeat constructor) (M.out.now.1.2) (ins_one1 _) (by unfold maxLen; omega) (by omega) ?_; intro v51 w' Mn; have Mn := Mn _ (by repeat constructor); simp only [Nat.zero_add, List.nil_append] at Mn; replace M := Lib.hid Mn; clear Mn))
      obtain ⟨gl, cl, cur0, hv, ⟨hcl, hcm⟩, hgl, ht0, hs0, M2⟩ := M.out.rowBlk HNN.out
      subst hv
      have HGL := Lib.hid hgl
      obtain ⟨ga, ca, cura, hv, ⟨hca, hcam⟩, hga, hta, hsa, M3⟩ := M2.rowBlk_at HPN.out
      subst hv
      replace M := Lib.hid M3
      clear M2 M3
      have HTA := Lib.hid (show ∀ (j p : Nat), (posK (lenN n) n4 (ksD D))[j]? = some p → cura[j]? = some (.int .i64 (p : Int)) from fun j p hj => by
        have h1 : (posV (lenN n) n4 (ksD D))[j]? = some (.int .i64 (p : Int)) := by unfold posV; rw [List.getElem?_map, hj]; rfl
        rw [← hta, List.getElem?_take_of_lt (by rw [Nat.mul_one]; exact (List.getElem?_eq_some_iff.1 hj).1)] at h1
        simpa using h1)
      have HPL := Lib.hid (show ∀ p ∈ posK (lenN n) n4 (ksD D), p < (n4 + lenK (lenN n) (ksD D)) from fun p hp => (posK_lt (ksD D) (fun x hx => by
        obtain ⟨d, hd, rfl⟩ := List.mem_map.1 hx
        exact (HK.out.len d hd).2.1) n4 p hp).2)
      clear hta hsa
      go_loopg [8] (posK (lenN n) n4 (ksD D)).length (fun gk kk wr => ∃ (j : Nat) (cur : Array Value), gk = (posK (lenN n) n4 (ksD D)).length - j ∧ j ≤ (posK (lenN n) n4 (ksD D)).length ∧ kk = .int .i64 (j : Nat) ∧ Hid (cur.toList.take ((n4 + lenK (lenN n) (ksD D)) * 7) = (patchL (n4 + lenK (lenN n) (ksD D)) ((posK (lenN n) n4 (ksD D)).take j) (is ++ insJ n 0 0 n4 nw (ksD D))).flatMap insC ∧ (n4 + lenK (lenN n) (ksD D)) * 7 ≤ cur.size) ∧ Hid (Own [] w wr [(gl, 36, cur), (g4, 70, #[.slice none 0 0, .slice none 0 0, .slice none 0 0, .slice none 0 0, .slice none 0 0]), (g2, 70, #[.slice B1 m1 d1, .slice B2 m2 d2, .slice B3 m3 d3, .slice A4 (n4 + lenK (lenN n) (ksD D)) c4, .slice A5 (nw + nWD D) c5])] [] (fun y => ((((∀ (i : Nat) (d : KidD), D[i]? = some d → y.rangeAt b (off + i * 17) d.kc) ∧ Blk y g3 98 #[.int .i64 0, .slice (some ⟨b, off, none⟩) D.length qc, z2, z3, z4, z5, z6, z7, z8, z9, z10, z11, z12, z13, z14, z15, z16]) ∧ Rdd y 7 A4 (n4 + lenK (lenN n) (ksD D)) ((is ++ insJ n 0 0 n4 nw (ksD D)).flatMap insC)) ∧ Rdd y 2 A5 (nw + nWD D) (wc ++ wCD D)) ∧ Blk y ga 3 cura)))
      case atStart => exact ⟨0, cur0, rfl, Nat.zero_le _, rfl, Lib.hid ⟨by simpa [patchL] using ht0, hs0⟩, M⟩
      case round =>
        clear M
        obtain ⟨j, cur, hgk, hjl, rfl, HT, M⟩ := hrel
        by_cases hj : j < (posK (lenN n) n4 (ksD D)).length
        · obtain ⟨p, hp⟩ : ∃ p, (posK (lenN n) n4 (ksD D))[j]? = some p := ⟨_, List.getElem?_eq_getElem hj⟩
          have HA := Lib.hid (HTA.out j p hp)
          have hpN : p < (n4 + lenK (lenN n) (ksD D)) := HPL.out p (List.mem_of_getElem? hp)
          have HPP := Lib.hid hp
          obtain ⟨IS, hIS⟩ : ∃ IS, patchL (n4 + lenK (lenN n) (ksD D)) ((posK (lenN n) n4 (ksD D)).take j) (is ++ insJ n 0 0 n4 nw (ksD D)) = IS := ⟨_, rfl⟩
          have hln : IS.length = (n4 + lenK (lenN n) (ksD D)) := by rw [← hIS, patchL_len]; exact HXL.out
          have HIS2 := Lib.hid hIS
          rw [hIS] at HT
          obtain ⟨y, hy⟩ : ∃ y, IS[p]? = some y := ⟨_, List.getElem?_eq_getElem (by omega)⟩
          have HMID := Lib.hid (show (cur.toList.drop (p * 7)).take 7 = [.int .i64 y.op, .int .i64 y.p, .int .i64 y.sign, .int .i64 y.kind, .int .i64 y.n, .string y.s, .int .i64 y.tt] from take_mid insC 7 (fun _ => rfl) (by rw [hln]; exact HT.out.1) hy)
          have HY := Lib.hid hy
          have hjI : (j : Int) < ((posK (lenN n) n4 (ksD D)).length : Nat) := by omega
          have hpI : (p : Int) < ((n4 + lenK (lenN n) (ksD D)) : Nat) := by omega
          have HGJ := Lib.hid hgk
          have hsz : p * 7 + 7 ≤ cur.size := by have := HT.out.2; omega
          clear hp hIS hy hgk
          go_upto_region 18 with (first | ((with_reducible refine g_ld 3 ?_); refine l_ld1j O_int rfl M.out (fun y h => h.2) HA.out ?_) | ((with_reducible refine g_ld 36 ?_); refine l_ldf F_Ins rfl (range_own (M.out.blk _ (by repeat constructor)) HMID.out) rfl ?_) | ((with_reducible refine g_al 36 9 ?_); refine l_al F_Ins M.out ?_; clear M; intro g9 w' hg9 M) | ((with_reducible refine g_st 36 ?_); refine l_st F_Ins rfl rfl M.out (by repeat constructor) (by exact rfl) (by exact rfl) (by exact rfl) ?_; clear M; intro w' M) | ((with_reducible refine g_st 3 ?_); refine l_st1 O_int rfl rfl (by exact rfl) M.out (by repeat constructor) ?_; clear M; intro w' M))
          replace M := Lib.hid M.out.freeze
          replace M := Lib.hid M.out.drew
          refine tb (fun y_ => (((((∀ (i : Nat) (d : KidD), D[i]? = some d → y_.rangeAt b (off + i * 17) d.kc) ∧ Blk y_ g3 98 #[.int .i64 0, .slice (some ⟨b, off, none⟩) D.length qc, z2, z3, z4, z5, z6, z7, z8, z9, z10, z11, z12, z13, z14, z15, z16]) ∧ Rdd y_ 7 A4 (n4 + lenK (lenN n) (ksD D)) ((is ++ insJ n 0 0 n4 nw (ksD D)).flatMap insC)) ∧ Rdd y_ 2 A5 (nw + nWD D) (wc ++ wCD D)) ∧ Blk y_ ga 3 cura) ∧ Blk y_ g9 36 #[.int .i64 y.op, .int .i64 y.p, .int .i64 y.sign, .int .i64 y.kind, .int .i64 y.n, .string y.s, .int .i64 (((n4 + lenK (lenN n) (ksD D)) : Nat) : Int)]) M.out.now ?_
          refine tkp 0 rfl M.out.now ?_
          refine tkp 1 rfl M.out.now ?_
          refine tkp 2 rfl M.out.now ?_
          refine tkp 3 rfl M.out.now ?_
          refine tk 4 rfl M.out.now (y_ld1 O_int _ _ _ rfl _ _ (fun _ h => h.1.2) _ HA.out) ?_
          refine tk 5 rfl M.out.now (y_ld F_Ins _ _ rfl _ _ (fun _ h => h.2) rfl) ?_
          refine tkp 6 rfl M.out.now ?_
          refine tr [7] ?_
          refine r_stm (new := setAt cur (p * 7) [.int .i64 y.op, .int .i64 y.p, .int .i64 y.sign, .int .i64 y.kind, .int .i64 y.n, .string y.s, .int .i64 (((n4 + lenK (lenN n) (ksD D)) : Nat) : Int)]) F_Ins (i := 7) rfl rfl rfl (by exact rfl) (by exact rfl) M.out (by repeat constructor) ?_ ?_ rfl hsz
          · clear M; intro w' M; refine ⟨M.out.now, tn ?_⟩
            refine te ?_
            go_wp2
            go_roundg ((posK (lenN n) n4 (ksD D)).length - (j + 1))
            case measure => have := HGJ.out; omega
            case rel => exact ⟨j + 1, setAt cur (p * 7) [.int .i64 y.op, .int .i64 y.p, .int .i64 y.sign, .int .i64 y.kind, .int .i64 y.n, .string y.s, .int .i64 (((n4 + lenK (lenN n) (ksD D)) : Nat) : Int)], rfl, by omega, by first | go_num | simp, Lib.hid (by
                rw [List.take_add_one, HPP.out, Option.toList_some, patchL_snoc, HIS2.out]
                have h1 := take_set insC 7 (fun _ => rfl) (l := IS) (y := toD (n4 + lenK (lenN n) (ksD D)) y) (by rw [hln]; exact HT.out.1) (by rw [hln]; exact HT.out.2) (p := p) (by omega)
                rw [hln] at h1
                rw [modify_set HY.out]
                exact ⟨h1, by rw [setAt_size]; exact HT.out.2⟩), Lib.hid (M.out.imp fun y h => h.1)⟩
          exact .nil
        · obtain rfl : j = (posK (lenN n) n4 (ksD D)).length := by omega
          rw [List.take_length] at HT
          have HPAT := Lib.hid (show patchL (n4 + lenK (lenN n) (ksD D)) (posK (lenN n) n4 (ksD D)) (is ++ insJ n 0 0 n4 nw (ksD D)) = is ++ insJ n 0 (n4 + lenK (lenN n) (ksD D)) n4 nw (ksD D) from by
            have := patch_all (I := insN n) (L := lenN n) (Wt := fun y => (waitN n y).length) (op := 3 + 0) (E := (n4 + lenK (lenN n) (ksD D))) (ksD D) (fun x hx => by
              obtain ⟨d, hd, rfl⟩ := List.mem_map.1 hx
              exact (HK.out.len d hd).1) n4 nw is [] HIS.out
            simpa [insJ] using this)
          rw [HPAT.out] at HT
          have HLJ := Lib.hid (show n4 + (insJ n 0 (n4 + lenK (lenN n) (ksD D)) n4 nw (ksD D)).length = (n4 + lenK (lenN n) (ksD D)) from by rw [insJ, insK_len _ _ _ fun x hx => by
            obtain ⟨d, hd, rfl⟩ := List.mem_map.1 hx
            exact (HK.out.len d hd).1])
          have hnj : ¬ (((posK (lenN n) n4 (ksD D)).length : Nat) : Int) < (((posK (lenN n) n4 (ksD D)).length : Nat) : Int) := by omega
          go_wp2_with (first | ((with_reducible refine g_st 27 ?_); refine l_st1 O_sIns rfl rfl (by exact rfl) M.out (by repeat constructor) ?_; clear M; intro w' M) | ((with_reducible refine g_ld 70 ?_); refine l_ld F_M rfl M.out (by repeat constructor) (by exact rfl) ?_) | ((with_reducible refine g_st 70 ?_); refine l_st F_M rfl rfl M.out (by repeat constructor) (by exact rfl) (by exact rfl) (by exact rfl) ?_; clear M; intro w' M))
          rw [← HQ.out]
          exact bodyPost_ret (results_1 Try.results33 _ _ g4 _ _ rfl (M.out.blk (g4, _, _) (by repeat constructor)) F_M rfl) rfl ⟨some ⟨gl, 0, none⟩, cl, A5, c5, by rw [HLJ.out]; rfl, by
            rw [HLJ.out, ← List.flatMap_append]
            exact rdd_blk (M.out.blk (gl, 36, cur) (by repeat constructor)) HT.out.1 HT.out.2, fun a e => by cases e; exact ⟨HGL.out, rfl⟩, M.out.now.1.2, HF5.out (List.length_pos_iff.1 (by have := HD2.out; omega)), M.out.bel0⟩

set_option maxRecDepth 100000 in
set_option maxHeartbeats 2000000 in
theorem rexpr_and (z2 z3 z4 z5 z6 z7 z8 z9 z10 z11 z12 z13 z14 z15 z16 : Value) (n b off qc : Nat) (wT : World) (D : List KidD) (hD : 2 ≤ D.length) (his : is.length = n4) (hK : KidsOK wT n b off D) (hw : Bel wT.heap.size wT w) (h4 : Rdd w 7 A4 n4 (is.flatMap insC)) (h5 : Rdd w 2 A5 nw wc) (h1 : ∀ u ∈ wc, u.oneCell' = true) (hl : n4 + lenK (lenN n) (ksD D) ≤ 999990) (hlw : nw + nWD D ≤ 999990) (hql : D.length ≤ 1000000) :
    Calls Try.prog 33 #[.agg #[.slice B1 m1 d1, .slice B2 m2 d2, .slice B3 m3 d3, .slice A4 n4 c4, .slice A5 nw c5], .agg #[.int .i64 1, .slice (some ⟨b, off, none⟩) D.length qc, z2, z3, z4, z5, z6, z7, z8, z9, z10, z11, z12, z13, z14, z15, z16]] w (MoreP B1 B2 B3 m1 d1 m2 d2 m3 d3 n4 nw (is.flatMap insC) wc w (insJ n 1 (n4 + lenK (lenN n) (ksD D)) n4 nw (ksD D)) (nWD D) (wCD D)) := by
  have M := Lib.hid (Own.start [] w (fun y => ((∀ (i : Nat) (d : KidD), D[i]? = some d → y.rangeAt b (off + i * 17) d.kc) ∧ Rdd y 7 A4 n4 (is.flatMap insC)) ∧ Rdd y 2 A5 nw wc) fun y hy => ⟨⟨fun i d hi j v hv => by
    rw [World.cell?_of_block (hy.2 b (Nat.lt_of_lt_of_le hK.lt hw.size) (by simp)), World.cell?_of_block (hw.block b hK.lt)]
    exact (hK.kc i d hi).2 j v hv, h4.old hy⟩, h5.old hy⟩)
  have HK := Lib.hid hK
  have HW := Lib.hid hw
  have HL := Lib.hid hl
  have HLW := Lib.hid hlw
  have HIS := Lib.hid his
  have HC0 := Lib.hid h1
  have HD2 := Lib.hid hD
  unfold MoreP
  clear h4 h5 h1 hK hw hD hl hlw his
  go_enter Try.func33, Try.ntmps33
  generalize hQ : bodyPost Try.prog Try.f33 _ = Q
  have HQ := Lib.hid hQ; clear hQ
  go_wp2_with (first | ((with_reducible refine g_bx 70 2 ?_); refine l_bx rfl M.out ?_; clear M; intro g2 w' hg2 M) | ((with_reducible refine g_bx 98 3 ?_); refine l_bx rfl M.out ?_; clear M; intro g3 w' hg3 M; replace M := Lib.hid M.out.freeze) | ((with_reducible refine g_al 70 4 ?_); refine l_al F_M M.out ?_; clear M; intro g4 w' hg4 M) | ((with_reducible refine g_ld 3 ?_); refine l_ld1j O_int rfl M.out (fun y h => h.2) (by exact rfl) ?_))
  go_loopg [5, 6] D.length (fun gk v kk wr => ∃ (Pd Rd : List KidD) (A4 A5 : Option Addr) (c4 c5 : Nat), gk = Rd.length ∧ Hid (D = Pd ++ Rd) ∧ kk = .int .i64 (Pd.length : Nat) ∧ Hid (Pd ≠ [] → FrA w A5) ∧ Hid (Own [] w wr [(g4, 70, #[.slice none 0 0, .slice none 0 0, .slice none 0 0, .slice none 0 0, .slice none 0 0]), (g2, 70, #[.slice B1 m1 d1, .slice B2 m2 d2, .slice B3 m3 d3, .slice A4 (n4 + lenK (lenN n) (ksD Pd)) c4, .slice A5 (nw + nWD Pd) c5])] [(v, 3, 1, (posK (lenN n) n4 (ksD Pd)).length, (posV (lenN n) n4 (ksD Pd)))] (fun y => (((∀ (i : Nat) (d : KidD), D[i]? = some d → y.rangeAt b (off + i * 17) d.kc) ∧ Blk y g3 98 #[.int .i64 1, .slice (some ⟨b, off, none⟩) D.length qc, z2, z3, z4, z5, z6, z7, z8, z9, z10, z11, z12, z13, z14, z15, z16]) ∧ Rdd y 7 A4 (n4 + lenK (lenN n) (ksD Pd)) ((is ++ insJ n 1 0 n4 nw (ksD Pd)).flatMap insC)) ∧ Rdd y 2 A5 (nw + nWD Pd) (wc ++ wCD Pd))))
  case atStart => exact ⟨[], D, A4, A5, c4, c5, rfl, Lib.hid rfl, rfl, Lib.hid (fun h => absurd rfl h), Lib.hid (by
    have := (M.out.rowNil 3 1).imp (J' := fun y => (((∀ (i : Nat) (d : KidD), D[i]? = some d → y.rangeAt b (off + i * 17) d.kc) ∧ Blk y g3 98 #[.int .i64 1, .slice (some ⟨b, off, none⟩) D.length qc, z2, z3, z4, z5, z6, z7, z8, z9, z10, z11, z12, z13, z14, z15, z16]) ∧ Rdd y 7 A4 n4 (is.flatMap insC)) ∧ Rdd y 2 A5 nw wc) fun y h => ⟨⟨⟨h.1.1.1, h.2⟩, h.1.1.2⟩, h.1.2⟩
    simpa [ksD, lenK, insJ, insK, nWD, wCD, posV, posK] using this)⟩
  case round =>
    clear M
    obtain ⟨Pd, Rd0, A4, A5, c4, c5, hgk, HD, rfl, HF5, M⟩ := hrel
    have HGK := Lib.hid hgk
    cases Rd0 with
    | cons dk Rd =>
      have HI := Lib.hid (show D[Pd.length]? = some dk from by rw [HD.out, List.getElem?_append_right (Nat.le_refl _), Nat.sub_self]; rfl)
      have hmem : dk ∈ D := List.mem_of_getElem? HI.out
      have HKC := Lib.hid (HK.out.call dk hmem)
      unfold KidC MoreP at HKC
      have HKL := Lib.hid (HK.out.kc _ _ HI.out).1
      have HLN := Lib.hid (HK.out.len dk hmem)
      have hlt : (Pd.length : Int) < (D.length : Int) := by have := (List.getElem?_eq_some_iff.1 HI.out).1; omega
      have HPD := Lib.hid (fun d (hd : d ∈ Pd) => HK.out.len d (by rw [HD.out]; simp [hd]))
      have HC := Lib.hid (show ∀ u ∈ (wc ++ wCD Pd), u.oneCell' = true from fun u hu => (List.mem_append.1 hu).elim (HC0.out u) fun hu => by
        obtain ⟨d, hd, hu⟩ := List.mem_flatMap.1 hu
        exact HK.out.one d (by rw [HD.out]; simp [hd]) u hu)
      have HXL := Lib.hid (show (is ++ insJ n 1 0 n4 nw (ksD Pd)).length = (n4 + lenK (lenN n) (ksD Pd)) from by rw [List.length_append, HIS.out, insJ, insK_len _ _ _ fun x hx => by
          obtain ⟨d, hd, rfl⟩ := List.mem_map.1 hx
          exact (HPD.out d hd).1])
      have HNW := Lib.hid (show nw + nWD Pd + dk.W.length ≤ 999990 from by
        have h1 := HLW.out
        rw [HD.out] at h1
        unfold nWD at h1 ⊢
        rw [List.map_append, List.sum_append, List.map_cons, List.sum_cons] at h1
        omega)
      have HKS := Lib.hid (show ksD (Pd ++ [dk]) = ksD Pd ++ [dk.x] from by simp [ksD])
      have HLE := Lib.hid (show n4 + lenK (lenN n) (ksD Pd ++ [dk.x]) ≤ 999990 from by
        have h1 := HL.out
        rw [HD.out, show ksD (Pd ++ dk :: Rd) = (ksD Pd ++ [dk.x]) ++ ksD Rd by simp [ksD]] at h1
        have := lenK_app_le (L := lenN n) (ksD Pd ++ [dk.x]) (ksD Rd)
        omega)
      have hpl : (posK (lenN n) n4 (ksD Pd)).length ≤ 1000000 := by
        have h1 := posK_len (L := lenN n) (ksD Pd) n4
        have h2 : (ksD Pd).length = Pd.length := by simp [ksD]
        omega
      have e3 : nw + nWD Pd + dk.W.length = nw + nWD (Pd ++ [dk]) := by simp [nWD]; omega
      have e4 : wc ++ wCD Pd ++ dk.W.flatMap wC = wc ++ wCD (Pd ++ [dk]) := by simp [wCD]
      have HE3 := Lib.hid e3
      have HE4 := Lib.hid e4
      clear e3 e4 hmem
      by_cases hp : Pd = []
      · have hz : ¬ (0 : Int) < (Pd.length : Int) := by rw [hp]; decide
        have HLX := Lib.hid (show (n4 + lenK (lenN n) (ksD Pd)) + lenN n dk.x ≤ 999990 from by have := HLE.out; rw [hp] at this ⊢; simp [ksD, lenK] at this ⊢; omega)
        have HE1 := Lib.hid (show (n4 + lenK (lenN n) (ksD Pd)) + (insN n (n4 + lenK (lenN n) (ksD Pd)) (nw + nWD Pd) dk.x).length = n4 + lenK (lenN n) (ksD (Pd ++ [dk])) from by rw [HLN.out.1, hp]; simp [ksD, lenK])
        have HE2 := Lib.hid (show ((is ++ insJ n 1 0 n4 nw (ksD Pd)).flatMap insC) ++ (insN n (n4 + lenK (lenN n) (ksD Pd)) (nw + nWD Pd) dk.x).flatMap insC = (is ++ insJ n 1 0 n4 nw (ksD (Pd ++ [dk]))).flatMap insC from by rw [hp]; simp [ksD, lenK, insJ, insK, nWD])
        have HE5 := Lib.hid (show posK (lenN n) n4 (ksD Pd) = posK (lenN n) n4 (ksD (Pd ++ [dk])) from by rw [hp]; simp [ksD, posK])
        clear hp
        go_upto_region 11 with (first | ((with_reducible refine g_ld 94 ?_); refine l_ld1j O_sEx rfl M.out (fun y h => h.1.1.2) (by exact rfl) ?_))
        replace M := Lib.hid M.out.drew
        refine tb (fun y => (((∀ (i : Nat) (d : KidD), D[i]? = some d → y.rangeAt b (off + i * 17) d.kc) ∧ Blk y g3 98 #[.int .i64 1, .slice (some ⟨b, off, none⟩) D.length qc, z2, z3, z4, z5, z6, z7, z8, z9, z10, z11, z12, z13, z14, z15, z16]) ∧ Rdd y 7 A4 (n4 + lenK (lenN n) (ksD Pd)) ((is ++ insJ n 1 0 n4 nw (ksD Pd)).flatMap insC)) ∧ Rdd y 2 A5 (nw + nWD Pd) (wc ++ wCD Pd)) M.out.now ?_
        refine tkp 1 rfl M.out.now ?_
        refine tk 2 rfl M.out.now (y_ld1 O_sEx _ _ _ rfl _ _ (fun _ h => h.1.1.2) _ rfl) ?_
        refine tkp 3 rfl M.out.now ?_
        refine tkp 4 rfl M.out.now ?_
        refine tk 5 rfl M.out.now (y_ldf F_Ex _ _ _ rfl dk.kc (fun _ h => h.1.1.1 _ _ HI.out) HKL.out) ?_
        refine tr [0] ?_
        refine r_ld F_M (i := 0) rfl rfl M.out (by repeat constructor) (by exact rfl) ?_ ?_
        · refine ⟨M.out.now, tn ?_⟩
          refine tr [6] ?_
          refine rdy_call (HKC.out B1 B2 B3 A4 A5 m1 d1 m2 d2 m3 d3 c4 c5 (n4 + lenK (lenN n) (ksD Pd)) (nw + nWD Pd) (is ++ insJ n 1 0 n4 nw (ksD Pd)) (wc ++ wCD Pd) _ (HXL.out) (HW.out.next M.out.bel0) (M.out.now.1.2) M.out.now.2 HC.out HLX.out HNW.out) (i := 6) (op := .call _) rfl (by go_simp) ?_ ?_
          · rintro e w' ⟨Az, cz, Ay, cy, rfl, hr4, hf4, hr5, hf5, hb⟩; have Mn := (M.out.addRd hb hr4 hf4).add (J' := fun y => Rdd y 2 Ay _ _) (fun y hy => hr5.kept hy fun a e _ hm => Nat.lt_irrefl _ (Nat.lt_of_lt_of_le (M.out.ex_lt hm) ((hf5 a e).1))); have HF5 := Lib.hid (hf5.le M.out.size); replace M := Lib.hid Mn; clear Mn hb hr4 hf4 hr5 hf5; refine ⟨_, rfl, ?_⟩; refine ⟨M.out.now.1.1, tn ?_⟩
            refine tr [7] ?_
            refine r_st F_M (i := 7) rfl rfl rfl M.out (by repeat constructor) (by exact rfl) (by exact rfl) (by exact rfl) ?_ ?_
            · clear M; intro w' M; refine ⟨M.out.now.1.1, tn ?_⟩
              refine te ?_
              go_wp2
              go_roundg Rd.length
              case measure => first | (rw [HGK.out]; simp; done) | (simp; done)
              case rel => exact ⟨Pd ++ [dk], Rd, Az, Ay, cz, cy, rfl, Lib.hid (by rw [HD.out]; simp), by first | go_num | simp, Lib.hid (fun _ => HF5.out), Lib.hid (by rw [← HE1.out, ← HE2.out, ← HE3.out, ← HE4.out]; unfold posV; rw [← HE5.out]; exact M.out.imp fun y h => ⟨⟨h.1.1.1.1, h.1.2⟩, h.2⟩)⟩
            exact .nil
          exact .nil
        exact .nil
      · have hz : (0 : Int) < (Pd.length : Int) := by have := List.length_pos_iff.2 hp; omega
        have hk0 : ksD Pd ≠ [] := by unfold ksD; simpa using hp
        have HLX := Lib.hid (show (n4 + lenK (lenN n) (ksD Pd)) + 1 + lenN n dk.x ≤ 999990 from by have := HLE.out; rw [lenK_snoc _ _ hk0] at this; omega)
        have HE1 := Lib.hid (show (n4 + lenK (lenN n) (ksD Pd)) + 1 + (insN n ((n4 + lenK (lenN n) (ksD Pd)) + 1) (nw + nWD Pd) dk.x).length = n4 + lenK (lenN n) (ksD (Pd ++ [dk])) from by rw [HLN.out.1, HKS.out, lenK_snoc _ _ hk0]; omega)
        have HE2 := Lib.hid (show (((is ++ insJ n 1 0 n4 nw (ksD Pd)) ++ [(⟨4, 0, 0, 0, 0, ⟨#[]⟩, 0⟩ : InsD)]).flatMap insC) ++ (insN n ((n4 + lenK (lenN n) (ksD Pd)) + 1) (nw + nWD Pd) dk.x).flatMap insC = (is ++ insJ n 1 0 n4 nw (ksD (Pd ++ [dk]))).flatMap insC from by
          rw [HKS.out]
          unfold insJ
          rw [insK_snoc _ _ _ _ hk0, nWD_eq fun d hd => (HPD.out d hd).2.2]
          simp only [List.flatMap_append, List.flatMap_cons, List.append_assoc, List.flatMap_nil, List.append_nil]
          rfl)
        have HE5 := Lib.hid (show posK (lenN n) n4 (ksD Pd) ++ [(n4 + lenK (lenN n) (ksD Pd))] = posK (lenN n) n4 (ksD (Pd ++ [dk])) from by rw [HKS.out, posK_snoc _ _ _ hk0])
        have HX := Lib.hid (show ((is ++ insJ n 1 0 n4 nw (ksD Pd)) ++ [(⟨4, 0, 0, 0, 0, ⟨#[]⟩, 0⟩ : InsD)]).length = (n4 + lenK (lenN n) (ksD Pd)) + 1 from by rw [List.length_append, HXL.out]; rfl)
        clear hp hk0
        go_upto_region 11 with (first | ((with_reducible refine g_ld 94 ?_); refine l_ld1j O_sEx rfl M.out (fun y h => h.1.1.2) (by exact rfl) ?_) | ((with_reducible refine g_ld 27 ?_); refine l_ld1 O_sIns rfl M.out (by repeat constructor) (by exact rfl) ?_) | ((with_reducible refine g_bs 75 32 ?_); refine l_bs SL_sint (cs := #[.int .i64 (((n4 + lenK (lenN n) (ksD Pd)) : Nat) : Int)]) (by kernel_rfl) M.out ?_; clear M; intro g32 w' hg32 M) | ((with_reducible refine g_ap 75 33 ?_); refine l_apB SL_sint rfl rfl M.out (by repeat constructor) (by repeat constructor) (by exact rfl) (by exact rfl) (by unfold maxLen; omega) (by omega) ?_; intro v33 w' Mn; have Mn := Mn _ (by repeat constructor); replace M := Lib.hid Mn; clear Mn) | ((with_reducible refine g_ld 70 ?_); refine l_ld F_M rfl M.out (by repeat constructor) (by exact rfl) ?_) | ((with_reducible refine g_ld 3 ?_); refine l_ld1j O_int rfl M.out (fun y h => h.1.1.2) (by exact rfl) ?_) | ((with_reducible refine g_st 70 ?_); refine l_st F_M rfl rfl M.out (by repeat constructor) (by exact rfl) (by exact rfl) (by exact rfl) ?_; clear M; intro w' M) | (go_at_call 34; refine (rput_any B1 B2 B3 A4 A5 m1 d1 m2 d2 m3 d3 c4 (nw + nWD Pd) c5 _ (n4 + lenK (lenN n) (ksD Pd)) ((is ++ insJ n 1 0 n4 nw (ksD Pd)).flatMap insC) ⟨4, 0, 0, 0, 0, ⟨#[]⟩, 0⟩ (by have := HLX.out; omega) (ins_one1 _) M.out.now.1.2).mono ?_; rintro e w' ⟨Ax, cx, rfl, hrd, hfr, hb⟩; rw [← flatMap_snoc] at hrd; have Mn := M.out.addRd hb hrd hfr; replace M := Lib.hid Mn; clear Mn hb hrd hfr))
        replace M := Lib.hid (M.out.drop.imp (J' := fun y => (((∀ (i : Nat) (d : KidD), D[i]? = some d → y.rangeAt b (off + i * 17) d.kc) ∧ Blk y g3 98 #[.int .i64 1, .slice (some ⟨b, off, none⟩) D.length qc, z2, z3, z4, z5, z6, z7, z8, z9, z10, z11, z12, z13, z14, z15, z16]) ∧ Rdd y 7 Ax ((n4 + lenK (lenN n) (ksD Pd)) + 1) (((is ++ insJ n 1 0 n4 nw (ksD Pd)) ++ [(⟨4, 0, 0, 0, 0, ⟨#[]⟩, 0⟩ : InsD)]).flatMap insC)) ∧ Rdd y 2 A5 (nw + nWD Pd) (wc ++ wCD Pd)) fun y h => ⟨⟨h.1.1.1, h.2⟩, h.1.2⟩)
        replace M := Lib.hid M.out.drew
        refine tb (fun y => (((∀ (i : Nat) (d : KidD), D[i]? = some d → y.rangeAt b (off + i * 17) d.kc) ∧ Blk y g3 98 #[.int .i64 1, .slice (some ⟨b, off, none⟩) D.length qc, z2, z3, z4, z5, z6, z7, z8, z9, z10, z11, z12, z13, z14, z15, z16]) ∧ Rdd y 7 Ax ((n4 + lenK (lenN n) (ksD Pd)) + 1) (((is ++ insJ n 1 0 n4 nw (ksD Pd)) ++ [(⟨4, 0, 0, 0, 0, ⟨#[]⟩, 0⟩ : InsD)]).flatMap insC)) ∧ Rdd y 2 A5 (nw + nWD Pd) (wc ++ wCD Pd)) M.out.now ?_
        refine tkp 1 rfl M.out.now ?_
        refine tk 2 rfl M.out.now (y_ld1 O_sEx _ _ _ rfl _ _ (fun _ h => h.1.1.2) _ rfl) ?_
        refine tkp 3 rfl M.out.now ?_
        refine tkp 4 rfl M.out.now ?_
        refine tk 5 rfl M.out.now (y_ldf F_Ex _ _ _ rfl dk.kc (fun _ h => h.1.1.1 _ _ HI.out) HKL.out) ?_
        refine tr [0] ?_
        refine r_ld F_M (i := 0) rfl rfl M.out (by repeat constructor) (by exact rfl) ?_ ?_
        · refine ⟨M.out.now, tn ?_⟩
          refine tr [6] ?_
          refine rdy_call (HKC.out B1 B2 B3 Ax A5 m1 d1 m2 d2 m3 d3 cx c5 ((n4 + lenK (lenN n) (ksD Pd)) + 1) (nw + nWD Pd) ((is ++ insJ n 1 0 n4 nw (ksD Pd)) ++ [(⟨4, 0, 0, 0, 0, ⟨#[]⟩, 0⟩ : InsD)]) (wc ++ wCD Pd) _ (HX.out) (HW.out.next M.out.bel0) (M.out.now.1.2) M.out.now.2 HC.out HLX.out HNW.out) (i := 6) (op := .call _) rfl (by go_simp) ?_ ?_
          · rintro e w' ⟨Az, cz, Ay, cy, rfl, hr4, hf4, hr5, hf5, hb⟩; have Mn := (M.out.addRd hb hr4 hf4).add (J' := fun y => Rdd y 2 Ay _ _) (fun y hy => hr5.kept hy fun a e _ hm => Nat.lt_irrefl _ (Nat.lt_of_lt_of_le (M.out.ex_lt hm) ((hf5 a e).1))); have HF5 := Lib.hid (hf5.le M.out.size); replace M := Lib.hid Mn; clear Mn hb hr4 hf4 hr5 hf5; refine ⟨_, rfl, ?_⟩; refine ⟨M.out.now.1.1, tn ?_⟩
            refine tr [7] ?_
            refine r_st F_M (i := 7) rfl rfl rfl M.out (by repeat constructor) (by exact rfl) (by exact rfl) (by exact rfl) ?_ ?_
            · clear M; intro w' M; refine ⟨M.out.now.1.1, tn ?_⟩
              refine te ?_
              go_wp2
              go_roundg Rd.length
              case measure => first | (rw [HGK.out]; simp; done) | (simp; done)
              case rel => exact ⟨Pd ++ [dk], Rd, Az, Ay, cz, cy, rfl, Lib.hid (by rw [HD.out]; simp), by first | go_num | simp, Lib.hid (fun _ => HF5.out), Lib.hid (by rw [← HE1.out, ← HE2.out, ← HE3.out, ← HE4.out]; unfold posV; rw [← HE5.out, List.length_append, List.map_append]; exact M.out.imp fun y h => ⟨⟨h.1.1.1.1, h.1.2⟩, h.2⟩)⟩
            exact .nil
          exact .nil
        exact .nil
    | nil =>
      obtain rfl : D = Pd := by simpa using HD.out
      have hnlt : ¬ (D.length : Int) < (D.length : Int) := by omega
      have HXL := Lib.hid (show (is ++ insJ n 1 0 n4 nw (ksD D)).length = (n4 + lenK (lenN n) (ksD D)) from by rw [List.length_append, HIS.out, insJ, insK_len _ _ _ fun x hx => by
          obtain ⟨d, hd, rfl⟩ := List.mem_map.1 hx
          exact (HK.out.len d hd).1])
      have HPN := Lib.hid (show 0 < (posK (lenN n) n4 (ksD D)).length from by
        have h1 := posK_len1 (L := lenN n) (ksD D) n4 (two_ne (by simpa [ksD] using HD2.out))
        have h2 : (ksD D).length = D.length := by simp [ksD]
        have := HD2.out; omega)
      have HNN := Lib.hid (show 0 < (n4 + lenK (lenN n) (ksD D)) from by
        have := lenK_pos (lenN n) (l := ksD D) (fun x hx => by
          obtain ⟨d, hd, rfl⟩ := List.mem_map.1 hx
          exact (HK.out.len d hd).2.1) (two_ne (by simpa [ksD] using HD2.out))
        omega)
      have hplD : (posK (lenN n) n4 (ksD D)).length ≤ 1000000 := by
        have h1 := posK_len (L := lenN n) (ksD D) n4
        have h2 : (ksD D).length = D.length := by simp [ksD]
        omega
      have hN9 : (n4 + lenK (lenN n) (ksD D)) ≤ 999990 := HL.out
      clear HGK HD
      go_wp2_with (first | ((with_reducible refine g_ld 94 ?_); refine l_ld1j O_sEx rfl M.out (fun y h => h.1.1.2) (by exact rfl) ?_) | ((with_reducible refine g_bs 27 47 ?_); refine l_bs0 SL_sIns lit0_sIns M.out ?_; clear M; intro g47 w' hg47 M) | ((with_reducible refine g_ld 27 ?_); refine l_ld1 O_sIns rfl M.out (by repeat constructor) (by exact rfl) ?_) | ((with_reducible refine g_ap 27 51 ?_); refine l_apR SL_sIns rfl rfl M.out (by repeat constructor) (M.out.now.1.2) (ins_one1 _) (by unfold maxLen; omega) (by omega) ?_; intro v51 w' Mn; have Mn := Mn _ (by repeat constructor); simp only [Nat.zero_add, List.nil_append] at Mn; replace M := Lib.hid Mn; clear Mn))
      obtain ⟨gl, cl, cur0, hv, ⟨hcl, hcm⟩, hgl, ht0, hs0, M2⟩ := M.out.rowBlk HNN.out
      subst hv
      have HGL := Lib.hid hgl
      obtain ⟨ga, ca, cura, hv, ⟨hca, hcam⟩, hga, hta, hsa, M3⟩ := M2.rowBlk_at HPN.out
      subst hv
      replace M := Lib.hid M3
      clear M2 M3
      have HTA := Lib.hid (show ∀ (j p : Nat), (posK (lenN n) n4 (ksD D))[j]? = some p → cura[j]? = some (.int .i64 (p : Int)) from fun j p hj => by
        have h1 : (posV (lenN n) n4 (ksD D))[j]? = some (.int .i64 (p : Int)) := by unfold posV; rw [List.getElem?_map, hj]; rfl
        rw [← hta, List.getElem?_take_of_lt (by rw [Nat.mul_one]; exact (List.getElem?_eq_some_iff.1 hj).1)] at h1
        simpa using h1)
      have HPL := Lib.hid (show ∀ p ∈ posK (lenN n) n4 (ksD D), p < (n4 + lenK (lenN n) (ksD D)) from fun p hp => (posK_lt (ksD D) (fun x hx => by
        obtain ⟨d, hd, rfl⟩ := List.mem_map.1 hx
        exact (HK.out.len d hd).2.1) n4 p hp).2)
      clear hta hsa
      go_loopg [8] (posK (lenN n) n4 (ksD D)).length (fun gk kk wr => ∃ (j : Nat) (cur : Array Value), gk = (posK (lenN n) n4 (ksD D)).length - j ∧ j ≤ (posK (lenN n) n4 (ksD D)).length ∧ kk = .int .i64 (j : Nat) ∧ Hid (cur.toList.take ((n4 + lenK (lenN n) (ksD D)) * 7) = (patchL (n4 + lenK (lenN n) (ksD D)) ((posK (lenN n) n4 (ksD D)).take j) (is ++ insJ n 1 0 n4 nw (ksD D))).flatMap insC ∧ (n4 + lenK (lenN n) (ksD D)) * 7 ≤ cur.size) ∧ Hid (Own [] w wr [(gl, 36, cur), (g4, 70, #[.slice none 0 0, .slice none 0 0, .slice none 0 0, .slice none 0 0, .slice none 0 0]), (g2, 70, #[.slice B1 m1 d1, .slice B2 m2 d2, .slice B3 m3 d3, .slice A4 (n4 + lenK (lenN n) (ksD D)) c4, .slice A5 (nw + nWD D) c5])] [] (fun y => ((((∀ (i : Nat) (d : KidD), D[i]? = some d → y.rangeAt b (off + i * 17) d.kc) ∧ Blk y g3 98 #[.int .i64 1, .slice (some ⟨b, off, none⟩) D.length qc, z2, z3, z4, z5, z6, z7, z8, z9, z10, z11, z12, z13, z14, z15, z16]) ∧ Rdd y 7 A4 (n4 + lenK (lenN n) (ksD D)) ((is ++ insJ n 1 0 n4 nw (ksD D)).flatMap insC)) ∧ Rdd y 2 A5 (nw + nWD D) (wc ++ wCD D)) ∧ Blk y ga 3 cura)))
      case atStart => exact ⟨0, cur0, rfl, Nat.zero_le _, rfl, Lib.hid ⟨by simpa [patchL] using ht0, hs0⟩, M⟩
      case round =>
        clear M
        obtain ⟨j, cur, hgk, hjl, rfl, HT, M⟩ := hrel
        by_cases hj : j < (posK (lenN n) n4 (ksD D)).length
        · obtain ⟨p, hp⟩ : ∃ p, (posK (lenN n) n4 (ksD D))[j]? = some p := ⟨_, List.getElem?_eq_getElem hj⟩
          have HA := Lib.hid (HTA.out j p hp)
          have hpN : p < (n4 + lenK (lenN n) (ksD D)) := HPL.out p (List.mem_of_getElem? hp)
          have HPP := Lib.hid hp
          obtain ⟨IS, hIS⟩ : ∃ IS, patchL (n4 + lenK (lenN n) (ksD D)) ((posK (lenN n) n4 (ksD D)).take j) (is ++ insJ n 1 0 n4 nw (ksD D)) = IS := ⟨_, rfl⟩
          have hln : IS.length = (n4 + lenK (lenN n) (ksD D)) := by rw [← hIS, patchL_len]; exact HXL.out
          have HIS2 := Lib.hid hIS
          rw [hIS] at HT
          obtain ⟨y, hy⟩ : ∃ y, IS[p]? = some y := ⟨_, List.getElem?_eq_getElem (by omega)⟩
          have HMID := Lib.hid (show (cur.toList.drop (p * 7)).take 7 = [.int .i64 y.op, .int .i64 y.p, .int .i64 y.sign, .int .i64 y.kind, .int .i64 y.n, .string y.s, .int .i64 y.tt] from take_mid insC 7 (fun _ => rfl) (by rw [hln]; exact HT.out.1) hy)
          have HY := Lib.hid hy
          have hjI : (j : Int) < ((posK (lenN n) n4 (ksD D)).length : Nat) := by omega
          have hpI : (p : Int) < ((n4 + lenK (lenN n) (ksD D)) : Nat) := by omega
          have HGJ := Lib.hid hgk
          have hsz : p * 7 + 7 ≤ cur.size := by have := HT.out.2; omega
          clear hp hIS hy hgk
          go_upto_region 18 with (first | ((with_reducible refine g_ld 3 ?_); refine l_ld1j O_int rfl M.out (fun y h => h.2) HA.out ?_) | ((with_reducible refine g_ld 36 ?_); refine l_ldf F_Ins rfl (range_own (M.out.blk _ (by repeat constructor)) HMID.out) rfl ?_) | ((with_reducible refine g_al 36 9 ?_); refine l_al F_Ins M.out ?_; clear M; intro g9 w' hg9 M) | ((with_reducible refine g_st 36 ?_); refine l_st F_Ins rfl rfl M.out (by repeat constructor) (by exact rfl) (by exact rfl) (by exact rfl) ?_; clear M; intro w' M) | ((with_reducible refine g_st 3 ?_); refine l_st1 O_int rfl rfl (by exact rfl) M.out (by repeat constructor) ?_; clear M; intro w' M))
          replace M := Lib.hid M.out.freeze
          replace M := Lib.hid M.out.drew
          refine tb (fun y_ => (((((∀ (i : Nat) (d : KidD), D[i]? = some d → y_.rangeAt b (off + i * 17) d.kc) ∧ Blk y_ g3 98 #[.int .i64 1, .slice (some ⟨b, off, none⟩) D.length qc, z2, z3, z4, z5, z6, z7, z8, z9, z10, z11, z12, z13, z14, z15, z16]) ∧ Rdd y_ 7 A4 (n4 + lenK (lenN n) (ksD D)) ((is ++ insJ n 1 0 n4 nw (ksD D)).flatMap insC)) ∧ Rdd y_ 2 A5 (nw + nWD D) (wc ++ wCD D)) ∧ Blk y_ ga 3 cura) ∧ Blk y_ g9 36 #[.int .i64 y.op, .int .i64 y.p, .int .i64 y.sign, .int .i64 y.kind, .int .i64 y.n, .string y.s, .int .i64 (((n4 + lenK (lenN n) (ksD D)) : Nat) : Int)]) M.out.now ?_
          refine tkp 0 rfl M.out.now ?_
          refine tkp 1 rfl M.out.now ?_
          refine tkp 2 rfl M.out.now ?_
          refine tkp 3 rfl M.out.now ?_
          refine tk 4 rfl M.out.now (y_ld1 O_int _ _ _ rfl _ _ (fun _ h => h.1.2) _ HA.out) ?_
          refine tk 5 rfl M.out.now (y_ld F_Ins _ _ rfl _ _ (fun _ h => h.2) rfl) ?_
          refine tkp 6 rfl M.out.now ?_
          refine tr [7] ?_
          refine r_stm (new := setAt cur (p * 7) [.int .i64 y.op, .int .i64 y.p, .int .i64 y.sign, .int .i64 y.kind, .int .i64 y.n, .string y.s, .int .i64 (((n4 + lenK (lenN n) (ksD D)) : Nat) : Int)]) F_Ins (i := 7) rfl rfl rfl (by exact rfl) (by exact rfl) M.out (by repeat constructor) ?_ ?_ rfl hsz
          · clear M; intro w' M; refine ⟨M.out.now, tn ?_⟩
            refine te ?_
            go_wp2
            go_roundg ((posK (lenN n) n4 (ksD D)).length - (j + 1))
            case measure => have := HGJ.out; omega
            case rel => exact ⟨j + 1, setAt cur (p * 7) [.int .i64 y.op, .int .i64 y.p, .int .i64 y.sign, .int .i64 y.kind, .int .i64 y.n, .string y.s, .int .i64 (((n4 + lenK (lenN n) (ksD D)) : Nat) : Int)], rfl, by omega, by first | go_num | simp, Lib.hid (by
                rw [List.take_add_one, HPP.out, Option.toList_some, patchL_snoc, HIS2.out]
                have h1 := take_set insC 7 (fun _ => rfl) (l := IS) (y := toD (n4 + lenK (lenN n) (ksD D)) y) (by rw [hln]; exact HT.out.1) (by rw [hln]; exact HT.out.2) (p := p) (by omega)
                rw [hln] at h1
                rw [modify_set HY.out]
                exact ⟨h1, by rw [setAt_size]; exact HT.out.2⟩), Lib.hid (M.out.imp fun y h => h.1)⟩
          exact .nil
        · obtain rfl : j = (posK (lenN n) n4 (ksD D)).length := by omega
          rw [List.take_length] at HT
          have HPAT := Lib.hid (show patchL (n4 + lenK (lenN n) (ksD D)) (posK (lenN n) n4 (ksD D)) (is ++ insJ n 1 0 n4 nw (ksD D)) = is ++ insJ n 1 (n4 + lenK (lenN n) (ksD D)) n4 nw (ksD D) from by
            have := patch_all (I := insN n) (L := lenN n) (Wt := fun y => (waitN n y).length) (op := 3 + 1) (E := (n4 + lenK (lenN n) (ksD D))) (ksD D) (fun x hx => by
              obtain ⟨d, hd, rfl⟩ := List.mem_map.1 hx
              exact (HK.out.len d hd).1) n4 nw is [] HIS.out
            simpa [insJ] using this)
          rw [HPAT.out] at HT
          have HLJ := Lib.hid (show n4 + (insJ n 1 (n4 + lenK (lenN n) (ksD D)) n4 nw (ksD D)).length = (n4 + lenK (lenN n) (ksD D)) from by rw [insJ, insK_len _ _ _ fun x hx => by
            obtain ⟨d, hd, rfl⟩ := List.mem_map.1 hx
            exact (HK.out.len d hd).1])
          have hnj : ¬ (((posK (lenN n) n4 (ksD D)).length : Nat) : Int) < (((posK (lenN n) n4 (ksD D)).length : Nat) : Int) := by omega
          go_wp2_with (first | ((with_reducible refine g_st 27 ?_); refine l_st1 O_sIns rfl rfl (by exact rfl) M.out (by repeat constructor) ?_; clear M; intro w' M) | ((with_reducible refine g_ld 70 ?_); refine l_ld F_M rfl M.out (by repeat constructor) (by exact rfl) ?_) | ((with_reducible refine g_st 70 ?_); refine l_st F_M rfl rfl M.out (by repeat constructor) (by exact rfl) (by exact rfl) (by exact rfl) ?_; clear M; intro w' M))
          rw [← HQ.out]
          exact bodyPost_ret (results_1 Try.results33 _ _ g4 _ _ rfl (M.out.blk (g4, _, _) (by repeat constructor)) F_M rfl) rfl ⟨some ⟨gl, 0, none⟩, cl, A5, c5, by rw [HLJ.out]; rfl, by
            rw [HLJ.out, ← List.flatMap_append]
            exact rdd_blk (M.out.blk (gl, 36, cur) (by repeat constructor)) HT.out.1 HT.out.2, fun a e => by cases e; exact ⟨HGL.out, rfl⟩, M.out.now.1.2, HF5.out (List.length_pos_iff.1 (by have := HD2.out; omega)), M.out.bel0⟩

end

end Go.Proofs.Ytpcbcodmocmilaa
