/- VerifyBent: walk (printed by gen_cr.py). -/
import Derived.Test.YtpcbcodmocmilaaG49
namespace Go.Proofs.Ytpcbcodmocmilaa
open Go.RowKit

theorem cm_with {wz : World} {c : CodeD} {A1 A2 A3 A4 : Option Addr} {gr : Nat} {T : TypeId} {cur : Array Value} {is' : List InsD} (h : CM wz A1 A2 A3 A4 c) (hb : Blk wz gr T cur) (ht : cur.toList.take (is'.length * 7) = is'.flatMap insC) (hs : is'.length * 7 ≤ cur.size) : CM wz A1 A2 A3 (some ⟨gr, 0, none⟩) (withIs c is') :=
  ⟨h.p, h.g, h.s, (rdd_cells insC 7 (fun _ => rfl) (l := is') (rdd_blk hb ht hs) fun a e => by cases e; rfl).imp id fun ⟨b, off, e, hb, hc⟩ =>
    ⟨b, off, e, hb, fun i x hx => ⟨hc i x hx 0 _ rfl, hc i x hx 1 _ rfl, hc i x hx 2 _ rfl, hc i x hx 3 _ rfl, hc i x hx 4 _ rfl, hc i x hx 5 _ rfl, hc i x hx 6 _ rfl⟩⟩⟩
theorem snd_with {wz : World} {c : CodeD} {A1 A2 A3 A4 : Option Addr} {gr : Nat} {T : TypeId} {cur : Array Value} {k1 k2 k3 : Nat} (cr : Nat) (is' : List InsD) {n : Nat} (hn : is'.length = n) (hsz : c.ps.length + c.gs.length + c.ss.length + n ≤ 5000) {b : Bool} (hsd : soundL (withIs c is') = b) (h : CM wz A1 A2 A3 A4 c) (hb : Blk wz gr T cur) (ht : cur.toList.take (is'.length * 7) = is'.flatMap insC) (hs : is'.length * 7 ≤ cur.size) (hq : c.gs.length ≤ k2 ∧ c.ss.length ≤ k3) :
    Calls Try.prog 7 #[.agg #[.slice A1 c.ps.length k1, .slice A2 c.gs.length k2, .slice A3 c.ss.length k3, .slice (some ⟨gr, 0, none⟩) n cr]] wz fun e w' => e = .returned (.bool b) ∧ Bel wz.heap.size wz w' := by
  subst hn hsd
  exact psound_any A1 A2 A3 (some ⟨gr, 0, none⟩) k1 k2 k3 cr (withIs c is') wz (cm_with h hb ht hs) (by show c.ps.length ≤ _; omega) (by show c.gs.length ≤ _; omega) (by show c.ss.length ≤ _; omega) (by show is'.length ≤ _; omega) hq.1 hq.2
theorem tk_last (r : List InsD) (x : InsD) : ((r ++ [x]).flatMap insC).take (r.length * 7) = r.flatMap insC := by
  rw [List.flatMap_append, List.take_left' (flat_len insC 7 (fun _ => rfl) r)]
theorem back_none {c : CodeD} {x : InsD} {i : Nat} (hop : x.op = 3 ∨ x.op = 4) {k m : Nat} (h : x.tt ≤ (k : Int)) (hh : Int) : insI c x i k m hh = none := by
  unfold insI
  rw [if_neg (by omega), if_neg (by omega), if_pos hop, if_neg (by omega)]
theorem low_none {c : CodeD} {x : InsD} {i : Nat} (hop : x.op < 2) (h : x.p ≤ 0) {k m : Nat} (hh : Int) : insI c x i k m hh = none := by
  unfold insI
  by_cases h0 : x.op < 0
  · rw [if_pos (.inl h0)]
  · rw [if_neg (by omega), if_pos (by omega), if_neg (by omega)]


set_option maxRecDepth 100000 in
set_option maxHeartbeats 2000000 in
theorem vb_long (s : ByteArray) (n h : Nat) (w : World) (hlen : ¬ s.size ≤ 400) : Calls Try.prog 3 #[.string s, .int .u16 (n : Int), .int .u8 (h : Int)] w fun e w' => e = .returned (.bool true) ∧ Bel w.heap.size w w' := by
  have M := Lib.hid (Own.start [] w (fun _ => True) fun _ _ => trivial)
  have hl : (400 : Int) < (s.size : Int) := by omega
  go_enter Try.func3, Try.ntmps3
  go_wp2_with (go_at_call 5; (with_reducible refine (awake20 _).mono ?_); rintro e w' ⟨rfl, hb⟩; replace M := Lib.hid (M.out.bel hb); clear hb)
  (go_ret; exact ⟨rfl, M.out.bel0⟩)
set_option maxRecDepth 100000 in
set_option maxHeartbeats 2000000 in
theorem vb_err (s : ByteArray) (n h : Nat) (w : World) (hlen : s.size ≤ 400) (x a : Int) (hp : parseT false s.data.toList = .error (x, a)) : Calls Try.prog 3 #[.string s, .int .u16 (n : Int), .int .u8 (h : Int)] w fun e w' => e = .returned (.bool true) ∧ Bel w.heap.size w w' := by
  have M := Lib.hid (Own.start [] w (fun _ => True) fun _ _ => trivial)
  have hl : ¬ (400 : Int) < (s.size : Int) := by omega
  have hQ := fun w => rquery_any s w (by omega)
  unfold RQueryP at hQ
  rw [hp] at hQ
  have HP := Lib.hid hQ
  have hxb : (x != 0) = true := bne_iff_ne.2 (err_ne hp)
  clear hQ hp
  go_enter Try.func3, Try.ntmps3
  go_wp2_with (first | ((with_reducible refine g_al 29 7 ?_); refine l_al F_Code M.out ?_; clear M; intro g7 w' hg7 M) | ((with_reducible refine g_al 32 8 ?_); refine l_al F_Flt M.out ?_; clear M; intro g8 w' hg8 M) | ((with_reducible refine g_st 29 ?_); refine l_st F_Code rfl rfl M.out (by repeat constructor) (by exact rfl) (by exact rfl) (by exact rfl) ?_; clear M; intro w' M) | ((with_reducible refine g_st 32 ?_); refine l_st F_Flt rfl rfl M.out (by repeat constructor) (by exact rfl) (by exact rfl) (by exact rfl) ?_; clear M; intro w' M) | ((with_reducible refine g_ld 30 ?_); refine l_ld1 O_errno rfl M.out (by repeat constructor) (by exact rfl) ?_) | ((with_reducible refine g_ld 29 ?_); refine l_ld F_Code rfl M.out (by repeat constructor) (by exact rfl) ?_) | (go_at_call 5; (with_reducible refine (awake20 _).mono ?_); rintro e w' ⟨rfl, hb⟩; replace M := Lib.hid (M.out.bel hb); clear hb) | (go_at_call 6; (with_reducible refine (HP.out _).mono ?_); rintro e w' ⟨rfl, hb⟩; replace M := Lib.hid (M.out.bel hb); clear hb))
  (go_ret; exact ⟨rfl, M.out.bel0⟩)
set_option maxRecDepth 100000 in
set_option maxHeartbeats 2000000 in
theorem vb_ok (s : ByteArray) (n h : Nat) (w : World) (hn : n ≤ 65535) (hh : h ≤ 255) (hlen : s.size ≤ 400) (p : PathT) (hp : parseT false s.data.toList = .ok p) : Calls Try.prog 3 #[.string s, .int .u16 (n : Int), .int .u8 (h : Int)] w fun e w' => e = .returned (.bool true) ∧ Bel w.heap.size w w' := by
  have M := Lib.hid (Own.start [] w (fun _ => True) fun _ _ => trivial)
  have hl : ¬ (400 : Int) < (s.size : Int) := by omega
  have hQ := fun w => rquery_any s w (by omega)
  unfold RQueryP at hQ
  rw [hp] at hQ
  simp only at hQ
  have HP := Lib.hid hQ
  have hwf := parse_wf hp
  rw [len_toList] at hwf
  obtain ⟨x0, a, b, hcq⟩ := code_q hwf.1 (by omega)
  have HCQ := Lib.hid hcq
  obtain ⟨c, hc⟩ : ∃ c, codeT p = c := ⟨_, rfl⟩
  rw [hc] at HP HCQ
  clear hQ hp hwf hcq hc
  have hsz := HCQ.out.size
  unfold szC at hsz
  go_enter Try.func3, Try.ntmps3
  go_upto_region 4 with (first | ((with_reducible refine g_al 29 7 ?_); refine l_al F_Code M.out ?_; clear M; intro g7 w' hg7 M) | ((with_reducible refine g_al 32 8 ?_); refine l_al F_Flt M.out ?_; clear M; intro g8 w' hg8 M) | ((with_reducible refine g_st 29 ?_); refine l_st F_Code rfl rfl M.out (by repeat constructor) (by exact rfl) (by exact rfl) (by exact rfl) ?_; clear M; intro w' M) | ((with_reducible refine g_st 32 ?_); refine l_st F_Flt rfl rfl M.out (by repeat constructor) (by exact rfl) (by exact rfl) (by exact rfl) ?_; clear M; intro w' M) | ((with_reducible refine g_ld 30 ?_); refine l_ld1 O_errno rfl M.out (by repeat constructor) (by exact rfl) ?_) | (go_at_call 5; (with_reducible refine (awake20 _).mono ?_); rintro e w' ⟨rfl, hb⟩; replace M := Lib.hid (M.out.bel hb); clear hb) | (go_at_call 6; (with_reducible refine (HP.out _).mono ?_); rintro e w' ⟨A1, A2, A3, A4, k1, k2, k3, k4, rfl, hcr, ⟨f1, f2, f3, f4⟩, hq, hb⟩; have HF := Lib.hid (show FrA w A1 ∧ FrA w A2 ∧ FrA w A3 ∧ FrA w A4 from ⟨f1.le M.out.size, f2.le M.out.size, f3.le M.out.size, f4.le M.out.size⟩); have Mn := M.out.addC hb hcr f1 f2 f3 f4; have HQQ := Lib.hid hq; replace M := Lib.hid Mn; clear Mn hb hcr f1 f2 f3 f4 hq))
  replace M := Lib.hid (M.out.imp (J' := fun y => CRd y c A1 A2 A3 A4) fun y h => h.2)
  by_cases hN : c.is.length = 0
  · have hN0 : ((c.is.length : Int) == 0) = true := beq_iff_eq.2 (by omega)
    go_wp2_with (first | ((with_reducible refine g_ld 30 ?_); refine l_ld1 O_errno rfl M.out (by repeat constructor) (by exact rfl) ?_) | ((with_reducible refine g_ld 27 ?_); refine l_ld1 O_sIns rfl M.out (by repeat constructor) (by exact rfl) ?_) | ((with_reducible refine g_ldg 27 ?_); refine l_ld1g O_sIns rfl rfl M.out (by repeat constructor) (by exact rfl) ?_))
    (go_ret; exact ⟨rfl, M.out.bel0⟩)
  · have hN0 : ((c.is.length : Int) == 0) = false := beq_eq_false_iff_ne.2 (by omega)
    have hNp : 0 < c.is.length := Nat.pos_of_ne_zero hN
    have hNI : (c.is.length : Int) ≠ 0 := by omega
    go_upto_region 8 with (first | ((with_reducible refine g_ld 30 ?_); refine l_ld1 O_errno rfl M.out (by repeat constructor) (by exact rfl) ?_) | ((with_reducible refine g_ld 27 ?_); refine l_ld1 O_sIns rfl M.out (by repeat constructor) (by exact rfl) ?_) | ((with_reducible refine g_ldg 27 ?_); refine l_ld1g O_sIns rfl rfl M.out (by repeat constructor) (by exact rfl) ?_) | ((with_reducible refine g_bs 27 40 ?_); refine l_bs0 SL_sIns lit0_sIns M.out ?_; clear M; intro g40 w' hg40 M) | ((with_reducible refine g_ap 27 43 ?_); refine l_apR SL_sIns rfl rfl M.out (by repeat constructor) (M.out.now.i) (ins_one1 _) (by unfold maxLen; omega) (by omega) ?_; intro v43 w' Mn; replace Mn := Mn _ (by repeat constructor); replace M := Lib.hid Mn; clear Mn))
    obtain ⟨k, hk⟩ : ∃ k, n % c.is.length = k := ⟨_, rfl⟩
    have hkN : k < c.is.length := by rw [← hk]; exact Nat.mod_lt _ (by omega)
    have hmod : (n : Int) % (c.is.length : Int) = (k : Int) := by rw [← hk]; rfl
    rw [hmod]
    obtain ⟨x, hx⟩ : ∃ x, c.is[k]? = some x := ⟨_, List.getElem?_eq_getElem (by omega)⟩
    obtain ⟨op, pp, sg, kd, nn, ss, tg⟩ := x
    have HX := Lib.hid hx
    have hbt := HCQ.out.bent k _ ⟨op, pp, sg, kd, nn, ss, (k : Int) - (n : Int) % 3⟩ hx rfl
    have hbt2 := HCQ.out.bent k _ ⟨op, -((n : Int) % 3), sg, kd, nn, ss, tg⟩ hx rfl
    have HB1 := Lib.hid (show op = 3 ∨ op = 4 → soundL (withIs c (c.is.set k ⟨op, pp, sg, kd, nn, ss, (k : Int) - (n : Int) % 3⟩)) = false from fun h => hbt (by show op ≠ 5; omega) fun i m hh => back_none h (by show (k : Int) - (n : Int) % 3 ≤ _; omega) hh)
    have HB2 := Lib.hid (show op < 2 → soundL (withIs c (c.is.set k ⟨op, -((n : Int) % 3), sg, kd, nn, ss, tg⟩)) = false from fun h => hbt2 (by show op ≠ 5; omega) fun i m hh => low_none h (by show -((n : Int) % 3) ≤ 0; omega) hh)
    have HB3 := Lib.hid (HCQ.out.ends (by intro e; rw [e] at hN; exact hN rfl))
    clear hx hbt hbt2 hk hmod
    replace M := Lib.hid (by simpa only [Nat.zero_add, List.nil_append] using M.out)
    obtain ⟨gr, cr, cur, hv, ⟨hcr1, hcr2⟩, hgr, htk, hcs, M2⟩ := M.out.rowBlk (by omega)
    subst hv
    replace M := Lib.hid M2
    have htk2 : cur.toList.take (c.is.length * 7) = c.is.flatMap insC := htk
    have HTK := Lib.hid htk2
    have HTM := Lib.hid (show (cur.toList.drop (k * 7)).take 7 = [.int .i64 op, .int .i64 pp, .int .i64 sg, .int .i64 kd, .int .i64 nn, .string ss, .int .i64 tg] from take_mid insC 7 (fun _ => rfl) htk2 HX.out)
    clear M2 htk htk2
    have hkI : (k : Int) < (c.is.length : Int) := by omega
    go_upto_region 10 with (first | ((with_reducible refine g_ld 36 ?_); refine l_ldm F_Ins rfl M.out (by repeat constructor) HTM.out rfl ?_) | ((with_reducible refine g_al 36 11 ?_); refine l_al F_Ins M.out ?_; clear M; intro g11 w' hg11 M) | ((with_reducible refine g_st 36 ?_); refine l_st F_Ins rfl rfl M.out (by repeat constructor) (by exact rfl) (by exact rfl) (by exact rfl) ?_; clear M; intro w' M))
    have hu3 : h % 3 = 0 ∨ h % 3 = 1 ∨ h % 3 = 2 := by omega
    have hm3 : (0 : Int) ≤ (n : Int) % 3 ∧ (n : Int) % 3 < 3 := by omega
    rcases hu3 with h3 | h3 | h3
    · have h0e : ((h : Int) % 3 == 0) = true := beq_iff_eq.2 (by omega)
      have h1e : ((h : Int) % 3 == 1) = false := beq_eq_false_iff_ne.2 (by omega)
      have h2e : ((h : Int) % 3 == 2) = false := beq_eq_false_iff_ne.2 (by omega)
      have hwr : IntKind.i64.wrap ((k : Int) - (n : Int) % 3) = (k : Int) - (n : Int) % 3 := IntWalk.i64_in _ (by omega)
      by_cases ho3 : op = 3
      · subst ho3
        have HSD := Lib.hid (HB1.out (.inl rfl))
        have HTS := Lib.hid (take_set insC 7 (fun _ => rfl) HTK.out hcs (y := ⟨3, pp, sg, kd, nn, ss, ((k : Int) - (n : Int) % 3)⟩) hkN)
        go_wp2_with (first | (first | ((with_reducible refine g_ld 3 ?_); refine l_ld1 O_int rfl M.out (by repeat constructor) (by exact rfl) ?_) | ((with_reducible refine g_ldg 3 ?_); refine l_ld1g O_int rfl rfl M.out (by repeat constructor) (by exact rfl) ?_) | ((with_reducible refine g_st 3 ?_); refine l_st1 (v := .int .i64 ((k : Int) - (n : Int) % 3)) O_int rfl rfl (by exact rfl) M.out (by repeat constructor) ?_; clear M; intro w' M)) | ((with_reducible refine g_ld 36 ?_); refine l_ld F_Ins rfl M.out (by repeat constructor) (by exact rfl) ?_) | ((with_reducible refine g_st 36 ?_); refine l_stm (new := setAt cur (k * 7) [.int .i64 3, .int .i64 pp, .int .i64 sg, .int .i64 kd, .int .i64 nn, .string ss, .int .i64 ((k : Int) - (n : Int) % 3)]) F_Ins rfl rfl rfl rfl M.out (by repeat constructor) ?_ rfl (by omega); clear M; intro w' M) | ((with_reducible refine g_st 27 ?_); refine l_st1 O_sIns rfl rfl (by exact rfl) M.out (by repeat constructor) ?_; clear M; intro w' M) | ((with_reducible refine g_ld 29 ?_); refine l_ld F_Code rfl M.out (by repeat constructor) (by exact rfl) ?_) | (go_at_call 7; (refine (snd_with cr (c.is.set k ⟨3, pp, sg, kd, nn, ss, ((k : Int) - (n : Int) % 3)⟩) (List.length_set ..) hsz HSD.out (crd_cm M.out.now HF.out) (M.out.blk (gr, _, _) (by repeat constructor)) (by rw [List.length_set]; exact HTS.out) (by rw [List.length_set, setAt_size]; exact hcs) HQQ.out).mono ?_); rintro e w' ⟨rfl, hb⟩; replace M := Lib.hid (M.out.bel hb); clear hb))
        go_ret; exact ⟨rfl, M.out.bel0⟩
      · have ho3e : (op == 3) = false := beq_eq_false_iff_ne.2 ho3
        by_cases ho4 : op = 4
        · subst ho4
          have HSD := Lib.hid (HB1.out (.inr rfl))
          have HTS := Lib.hid (take_set insC 7 (fun _ => rfl) HTK.out hcs (y := ⟨4, pp, sg, kd, nn, ss, ((k : Int) - (n : Int) % 3)⟩) hkN)
          go_wp2_with (first | (first | ((with_reducible refine g_ld 3 ?_); refine l_ld1 O_int rfl M.out (by repeat constructor) (by exact rfl) ?_) | ((with_reducible refine g_ldg 3 ?_); refine l_ld1g O_int rfl rfl M.out (by repeat constructor) (by exact rfl) ?_) | ((with_reducible refine g_st 3 ?_); refine l_st1 (v := .int .i64 ((k : Int) - (n : Int) % 3)) O_int rfl rfl (by exact rfl) M.out (by repeat constructor) ?_; clear M; intro w' M)) | ((with_reducible refine g_ld 36 ?_); refine l_ld F_Ins rfl M.out (by repeat constructor) (by exact rfl) ?_) | ((with_reducible refine g_st 36 ?_); refine l_stm (new := setAt cur (k * 7) [.int .i64 4, .int .i64 pp, .int .i64 sg, .int .i64 kd, .int .i64 nn, .string ss, .int .i64 ((k : Int) - (n : Int) % 3)]) F_Ins rfl rfl rfl rfl M.out (by repeat constructor) ?_ rfl (by omega); clear M; intro w' M) | ((with_reducible refine g_st 27 ?_); refine l_st1 O_sIns rfl rfl (by exact rfl) M.out (by repeat constructor) ?_; clear M; intro w' M) | ((with_reducible refine g_ld 29 ?_); refine l_ld F_Code rfl M.out (by repeat constructor) (by exact rfl) ?_) | (go_at_call 7; (refine (snd_with cr (c.is.set k ⟨4, pp, sg, kd, nn, ss, ((k : Int) - (n : Int) % 3)⟩) (List.length_set ..) hsz HSD.out (crd_cm M.out.now HF.out) (M.out.blk (gr, _, _) (by repeat constructor)) (by rw [List.length_set]; exact HTS.out) (by rw [List.length_set, setAt_size]; exact hcs) HQQ.out).mono ?_); rintro e w' ⟨rfl, hb⟩; replace M := Lib.hid (M.out.bel hb); clear hb))
          go_ret; exact ⟨rfl, M.out.bel0⟩
        · have ho4e : (op == 4) = false := beq_eq_false_iff_ne.2 ho4
          have HGD := Lib.hid (fun wz h => psound_any A1 A2 A3 A4 k1 k2 k3 k4 c wz (crd_cm h HF.out) (by omega) (by omega) (by omega) (by omega) HQQ.out.1 HQQ.out.2)
          rw [HCQ.out.sound] at HGD
          go_wp2_with (first | (first | ((with_reducible refine g_ld 3 ?_); refine l_ld1 O_int rfl M.out (by repeat constructor) (by exact rfl) ?_) | ((with_reducible refine g_ldg 3 ?_); refine l_ld1g O_int rfl rfl M.out (by repeat constructor) (by exact rfl) ?_)) | ((with_reducible refine g_ld 29 ?_); refine l_ld F_Code rfl M.out (by repeat constructor) (by exact rfl) ?_) | (go_at_call 7; (with_reducible refine (HGD.out _ M.out.now).mono ?_); rintro e w' ⟨rfl, hb⟩; replace M := Lib.hid (M.out.bel hb); clear hb))
          go_ret; exact ⟨rfl, M.out.bel0⟩
    · have h0e : ((h : Int) % 3 == 0) = false := beq_eq_false_iff_ne.2 (by omega)
      have h1e : ((h : Int) % 3 == 1) = true := beq_iff_eq.2 (by omega)
      have h2e : ((h : Int) % 3 == 2) = false := beq_eq_false_iff_ne.2 (by omega)
      by_cases ho2 : op < 2
      · have hwr : IntKind.i64.wrap (-((n : Int) % 3)) = -((n : Int) % 3) := IntWalk.i64_in _ (by omega)
        have HSD := Lib.hid (HB2.out ho2)
        have HTS := Lib.hid (take_set insC 7 (fun _ => rfl) HTK.out hcs (y := ⟨op, (-((n : Int) % 3)), sg, kd, nn, ss, tg⟩) hkN)
        go_wp2_with (first | (first | ((with_reducible refine g_ld 3 ?_); refine l_ld1 O_int rfl M.out (by repeat constructor) (by exact rfl) ?_) | ((with_reducible refine g_ldg 3 ?_); refine l_ld1g O_int rfl rfl M.out (by repeat constructor) (by exact rfl) ?_) | ((with_reducible refine g_st 3 ?_); refine l_st1 (v := .int .i64 (-((n : Int) % 3))) O_int rfl rfl (by exact rfl) M.out (by repeat constructor) ?_; clear M; intro w' M)) | ((with_reducible refine g_ld 36 ?_); refine l_ld F_Ins rfl M.out (by repeat constructor) (by exact rfl) ?_) | ((with_reducible refine g_st 36 ?_); refine l_stm (new := setAt cur (k * 7) [.int .i64 op, .int .i64 (-((n : Int) % 3)), .int .i64 sg, .int .i64 kd, .int .i64 nn, .string ss, .int .i64 tg]) F_Ins rfl rfl rfl rfl M.out (by repeat constructor) ?_ rfl (by omega); clear M; intro w' M) | ((with_reducible refine g_st 27 ?_); refine l_st1 O_sIns rfl rfl (by exact rfl) M.out (by repeat constructor) ?_; clear M; intro w' M) | ((with_reducible refine g_ld 29 ?_); refine l_ld F_Code rfl M.out (by repeat constructor) (by exact rfl) ?_) | (go_at_call 7; (refine (snd_with cr (c.is.set k ⟨op, (-((n : Int) % 3)), sg, kd, nn, ss, tg⟩) (List.length_set ..) hsz HSD.out (crd_cm M.out.now HF.out) (M.out.blk (gr, _, _) (by repeat constructor)) (by rw [List.length_set]; exact HTS.out) (by rw [List.length_set, setAt_size]; exact hcs) HQQ.out).mono ?_); rintro e w' ⟨rfl, hb⟩; replace M := Lib.hid (M.out.bel hb); clear hb))
        go_ret; exact ⟨rfl, M.out.bel0⟩
      ·
        have HGD := Lib.hid (fun wz h => psound_any A1 A2 A3 A4 k1 k2 k3 k4 c wz (crd_cm h HF.out) (by omega) (by omega) (by omega) (by omega) HQQ.out.1 HQQ.out.2)
        rw [HCQ.out.sound] at HGD
        go_wp2_with (first | (first | ((with_reducible refine g_ld 3 ?_); refine l_ld1 O_int rfl M.out (by repeat constructor) (by exact rfl) ?_) | ((with_reducible refine g_ldg 3 ?_); refine l_ld1g O_int rfl rfl M.out (by repeat constructor) (by exact rfl) ?_)) | ((with_reducible refine g_ld 29 ?_); refine l_ld F_Code rfl M.out (by repeat constructor) (by exact rfl) ?_) | (go_at_call 7; (with_reducible refine (HGD.out _ M.out.now).mono ?_); rintro e w' ⟨rfl, hb⟩; replace M := Lib.hid (M.out.bel hb); clear hb))
        go_ret; exact ⟨rfl, M.out.bel0⟩
    · have h0e : ((h : Int) % 3 == 0) = false := beq_eq_false_iff_ne.2 (by omega)
      have h1e : ((h : Int) % 3 == 1) = false := beq_eq_false_iff_ne.2 (by omega)
      have h2e : ((h : Int) % 3 == 2) = true := beq_iff_eq.2 (by omega)
      have hdl : c.is.dropLast.length = c.is.length - 1 := List.length_dropLast ..
      have HDT := Lib.hid (show cur.toList.take (c.is.dropLast.length * 7) = c.is.dropLast.flatMap insC from by
        have h1 := congrArg (List.take (c.is.dropLast.length * 7)) HTK.out
        rw [List.take_take, Nat.min_eq_left (by omega)] at h1
        rw [h1]
        have h2 := tk_last c.is.dropLast (c.is.getLast (by intro e; rw [e] at hNp; simp at hNp))
        rw [List.dropLast_concat_getLast] at h2
        exact h2)
      have HDL := Lib.hid (show c.is.dropLast.length * 7 ≤ cur.size from by omega)
      have HDQ := Lib.hid hdl
      clear hdl
      have hnd : c.is.length - 1 ≤ c.is.length := by omega
      have hN1 : (c.is.length : Int) - 1 = ((c.is.length - 1 : Nat) : Int) := by omega
      go_upto_region 15 with (first | (first | ((with_reducible refine g_ld 3 ?_); refine l_ld1 O_int rfl M.out (by repeat constructor) (by exact rfl) ?_) | ((with_reducible refine g_ldg 3 ?_); refine l_ld1g O_int rfl rfl M.out (by repeat constructor) (by exact rfl) ?_)) | ((with_reducible refine g_ld 29 ?_); refine l_ld F_Code rfl M.out (by repeat constructor) (by exact rfl) ?_))
      go_wp2_with (first | ((with_reducible refine g_st 27 ?_); refine l_st1 O_sIns rfl rfl (by exact rfl) M.out (by repeat constructor) ?_; clear M; intro w' M) | ((with_reducible refine g_ld 29 ?_); refine l_ld F_Code rfl M.out (by repeat constructor) (by exact rfl) ?_) | (go_at_call 7; (refine (snd_with cr c.is.dropLast HDQ.out (by omega) HB3.out (crd_cm M.out.now HF.out) (M.out.blk (gr, _, _) (by repeat constructor)) HDT.out HDL.out HQQ.out).mono ?_); rintro e w' ⟨rfl, hb⟩; replace M := Lib.hid (M.out.bel hb); clear hb))
      go_ret; exact ⟨rfl, M.out.bel0⟩
theorem vb_any (s : ByteArray) (n h : Int) (w : World) (_ : s.size ≤ maxLen) (hn : 0 ≤ n ∧ n ≤ 65535) (hh : 0 ≤ h ∧ h ≤ 255) : Calls Try.prog 3 #[.string s, .int .u16 n, .int .u8 h] w fun e w' => e = .returned (.bool true) ∧ Bel w.heap.size w w' := by
  obtain ⟨n, rfl⟩ := Int.eq_ofNat_of_zero_le hn.1
  obtain ⟨h, rfl⟩ := Int.eq_ofNat_of_zero_le hh.1
  by_cases hlen : s.size ≤ 400
  · cases hp : parseT false s.data.toList with
    | error e => exact vb_err s n h w hlen e.1 e.2 hp
    | ok p => exact vb_ok s n h w (by omega) (by omega) hlen p hp
  · exact vb_long s n h w hlen
theorem wf_u8' {n : Int} (h : (Lit.int .u8 n).wf = true) : 0 ≤ n ∧ n ≤ 255 := by
  have e1 : IntKind.u8.min = 0 := by decide
  have e2 : IntKind.u8.max = 255 := by decide
  simp only [Lit.wf, e1, e2] at h
  simpa using h
theorem wf_u16' {n : Int} (h : (Lit.int .u16 n).wf = true) : 0 ≤ n ∧ n ≤ 65535 := by
  have e1 : IntKind.u16.min = 0 := by decide
  have e2 : IntKind.u16.max = 65535 := by decide
  simp only [Lit.wf, e1, e2] at h
  simpa using h
theorem vb_law (s : ByteArray) (n h : Int) (w : World) (hs : s.size ≤ maxLen) (hn : (Lit.int .u16 n).wf = true) (hh : (Lit.int .u8 h).wf = true) : Calls Try.prog 3 #[.string s, .int .u16 n, .int .u8 h] w fun e w' => e = .returned (.bool true) ∧ Bel w.heap.size w w' := vb_any s n h w hs (wf_u16' hn) (wf_u8' hh)


end Go.Proofs.Ytpcbcodmocmilaa
